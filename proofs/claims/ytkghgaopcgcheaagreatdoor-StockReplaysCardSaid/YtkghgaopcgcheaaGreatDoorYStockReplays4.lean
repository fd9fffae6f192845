/- Parts of the proof of StockReplays, in order. No conditions but those that each theorem states. -/
import Derived.Test.YtkghgaopcgcheaaGreatDoorYStockReplays0
import Derived.Great.BuildSlice
import Derived.Great.Walk
import Derived.Test.YtkghgaopcgcheaaGreatDoorYStockReplays3
set_option maxRecDepth 100000
set_option maxHeartbeats 16000000
set_option linter.unusedSimpArgs false
set_option linter.unusedVariables false
namespace Go.Proofs.YtkghgaopcgcheaaGreatDoor
open Go.RowKit Go.Maps
theorem Seg.step {prv nxt : Nat → Nat} : ∀ {I : List Nat} {x y : Nat}, Seg prv nxt x I y → ∀ (k a c : Nat), (x :: (I ++ [y]))[k]? = some a → (x :: (I ++ [y]))[k + 1]? = some c → prv a = c ∧ nxt c = a
  | [], x, y, h, k, a, c, h1, h2 => by
    cases k with
    | zero => simp at h1 h2; subst h1 h2; exact h
    | succ k => simp at h2
  | i :: r, x, y, h, k, a, c, h1, h2 => by
    cases k with
    | zero => simp at h1 h2; subst h1 h2; exact ⟨h.1, h.2.1⟩
    | succ k => exact Seg.step h.2.2 k a c (by simpa using h1) (by simpa using h2)
def zeroPins (x : Jar) : Bool := decide (x.pins = 0)
def vicL (budget : Int) (L : List Jar) : Option Jar := if sumL L ≤ budget ∧ L.length < 64 then none else L.reverse.find? zeroPins
def vicD (o : Option Jar) : Dig := match o with | none => dig0 | some x => x.dig
theorem take_rev {L : List Jar} {m : Nat} {x : Jar} (h : L[m]? = some x) : (L.take (m + 1)).reverse.find? zeroPins = if zeroPins x = true then some x else (L.take m).reverse.find? zeroPins := by
  rw [take_snoc' h, List.reverse_append]; simp only [List.reverse_cons, List.reverse_nil, List.nil_append, List.singleton_append]
  cases hz : zeroPins x with
  | true => rw [List.find?_cons_of_pos hz]; simp
  | false => rw [List.find?_cons_of_neg (by simp [hz])]; simp
where
  take_snoc' {L : List Jar} {m : Nat} {x : Jar} (h : L[m]? = some x) : L.take (m + 1) = L.take m ++ [x] := by
    rw [List.take_add_one, h]; rfl
theorem int_ne' {x y : Int} (h : x ≠ y) : (x == y) = false ∧ (x != y) = true := by simp [h]
theorem wpQuiet_maplen {P : Program} {ops : Array Oper} {C : World → Prop} {rest : List Oper} {o : Oper} {a : Act} {Q : Act → Prop} (hg : Region.wanted o (yielded ops a.tmps) = true) (x : Operand) (t : TypeId) (ho : o.op = .call { callee := .builtin .len, args := #[x], argTypes := #[t] })
    (b n : Nat) (hx : a.eval x = .map (some b)) (hS : ∀ w, C w → ∀ ty, (Builtin.len_ #[t] ty #[.map (some b)]).run P w = .ok (.int .i64 n) w)
    (h : wpQuiet P ops C Q rest (a.put o.dst (.int .i64 n))) : wpQuiet P ops C Q (o :: rest) a := by
  unfold wpQuiet; rw [if_pos hg]; refine ⟨_, fun w hw => ?_, h⟩; unfold Oper.quietAt execOp; simp [ho, resolve, invoke, builtin, hx, hS w hw o.type, Result.andThen]; exact ⟨rfl, rfl⟩
theorem rack_Victim {S : List Nat} (b : Nat) (budget : Int) (L : List Jar) (w : World) (h : Rk S w b budget L) :
    Calls Tryz.prog 90 #[.pointer (some ⟨b, 0, none⟩)] w fun e w' => e = .returned (.tuple #[.agg (digC (vicD (vicL budget L))).toArray, .bool (vicL budget L).isSome]) ∧ Keep [] w w' := by
  obtain ⟨P, fv, bm, total, pinned, M, I, F, h1, hL, m1, m2, m3⟩ := h; have hkA := (Keep.refl [] w).alloc (.cells (digC dig0).toArray 25); have hbA := Blk.newA w (digC dig0).toArray 25; have hA := h1.keep0 hkA
  have hV : vicL budget L = if total ≤ budget ∧ I.length < 64 then none else L.reverse.find? zeroPins := by
    unfold vicL; rw [h1.tot, ← hL, hL, List.length_map]
  generalize vicL budget L = res at hV; rw [dig0_cells] at hkA hbA hA; generalize hwA : w.alloc (.cells #[.int .u8 0, .int .u8 0, .int .u8 0, .int .u8 0, .int .u8 0, .int .u8 0, .int .u8 0, .int .u8 0, .int .u8 0, .int .u8 0, .int .u8 0, .int .u8 0, .int .u8 0, .int .u8 0, .int .u8 0, .int .u8 0, .int .u8 0, .int .u8 0, .int .u8 0, .int .u8 0, .int .u8 0, .int .u8 0, .int .u8 0, .int .u8 0, .int .u8 0, .int .u8 0, .int .u8 0, .int .u8 0, .int .u8 0, .int .u8 0, .int .u8 0, .int .u8 0] 25) = wA at hkA hbA hA; have hbA : Blk wA w.heap.size 25 (digC dig0) := by rw [← dig0_cells] at hbA; exact hbA
  have c6 : wA.cell? ⟨b, 2406, none⟩ = some (.map (some bm)) := hA.blk.tail 1; have c7 : wA.cell? ⟨b, 2407, none⟩ = some (.int .i64 budget) := hA.blk.tail 2; have c8 : wA.cell? ⟨b, 2408, none⟩ = some (.int .i64 total) := hA.blk.tail 3; have hlen := hA.map; have HBA := Lib.hid hbA; have HKA := Lib.hid hkA; have HH := Lib.hid hA; have HLL := Lib.hid hL; clear h1 hkA hbA hA hL
  have hml : ∀ w', (∃ x, w' = wA.drewN x) → ∀ ty, (Builtin.len_ #[137] ty #[.map (some bm)]).run Tryz.prog w' = .ok (.int .i64 (I.length : Nat)) w' := fun w' ⟨x, hx⟩ ty => by
    subst hx; exact (hlen.drewN x).len ty
  have HML := Lib.hid hml; clear hml hlen; have HS0 := Lib.hid (And.intro (show (Tryz.prog.info? 25).map (·.size) = some (digC dig0).toArray.size by rw [List.size_toArray, digC_length]; exact dig_size) (all_oneCell_toArray (digC_one dig0))); by_cases hle : total ≤ budget
  · by_cases hl64 : I.length < 64
    · rw [if_pos ⟨hle, hl64⟩] at hV; have HN := Lib.hid hV; have hl64' : (I.length : Int) < 64 := by omega
      clear hV hl64; go_enter Tryz.func90, Tryz.ntmps90; go_wp2_with fail; refine wp_region_quiet_lit (by kernel_rfl) (by kernel_rfl) ?_
      repeat (go_big_quiet_step (fail))
      refine wpQuiet_maplen (by rfl) (.tmp 21) 137 rfl bm I.length (by rfl) HML.out ?_; simp only [sq]
      repeat (go_big_quiet_step (fail))
      refine wpQuiet_nil ?_; intro _ hw'; obtain ⟨nq, hw''⟩ := hw'; subst hw''; have hkq := HKA.out.drewN nq; have hbq := HBA.out.drewN nq; have hRq : RkW (wA.drewN nq) b P fv bm budget total pinned M I F := HH.out.keep0 ((Keep.refl [] wA).drewN nq); generalize wA.drewN nq = wq at hkq hbq hRq
      go_wp2_with (first | (refine wpList_store_mid rfl 25 (.tmp 2) (.tmp 26) rfl w.heap.size 0 (digC dig0).toArray (by rfl) (by first | rfl | kernel_rfl) (hbq.there 0 _ (by simp)) HS0.out.1 HS0.out.2 ?_) | fail); have hwt : wq.there w.heap.size 0 (digC dig0).length := hbq.there 0 _ (by simp [digC_length]); have hr := World.rangeAt_setCells_same wq w.heap.size 0 (digC dig0) hwt; have hload := run_loadVar_mid (P := Tryz.prog) (wq.setCells w.heap.size 0 (digC dig0)) w.heap.size 0 25 (digC dig0) _ hr Tryz.underlying25 rfl (by rw [digC_length]; exact dig_size); refine bodyPost_ret (v := .tuple #[.agg (digC dig0).toArray, .bool false]) (by simp [results, Tryz.results90, asAddr, Result.andThen, hload]) rfl ⟨?_, ?_⟩
      · rw [HN.out]; rfl
      · exact Keep.setCells _ (by omega) _ _ _ hkq
    · rw [if_neg (by omega)] at hV; have hl64' : ¬ (I.length : Int) < 64 := by omega
      go_enter Tryz.func90, Tryz.ntmps90; go_wp2_with fail; refine wp_region_quiet_lit (by kernel_rfl) (by kernel_rfl) ?_
      repeat (go_big_quiet_step (fail))
      refine wpQuiet_maplen (by rfl) (.tmp 21) 137 rfl bm I.length (by rfl) HML.out ?_; simp only [sq]
      repeat (go_big_quiet_step (fail))
      refine wpQuiet_nil ?_; intro _ hw'; obtain ⟨nq, hw''⟩ := hw'; subst hw''; have hkq := HKA.out.drewN nq; have hbq := HBA.out.drewN nq; have hRq : RkW (wA.drewN nq) b P fv bm budget total pinned M I F := HH.out.keep0 ((Keep.refl [] wA).drewN nq); generalize wA.drewN nq = wq at hkq hbq hRq; obtain ⟨x0, hx0⟩ : ∃ x, (0 :: I)[I.length]? = some x := ⟨_, List.getElem?_eq_getElem (by simp)⟩
      obtain ⟨p0, hp0⟩ : ∃ p, P[0]? = some p := ⟨_, List.getElem?_eq_getElem (by have := hRq.ring.len; omega)⟩
      have hnx0 : p0.next = x0 := by
        have h1 : (0 :: (I ++ [0]))[I.length]? = some x0 := by
          rw [← hx0, ← List.cons_append, List.getElem?_append_left (by simp)]
        have h2 : (0 :: (I ++ [0]))[I.length + 1]? = some 0 := by simp
        have := (hRq.ring.seg.step _ _ _ h1 h2).2; unfold nxtF at this; rwa [getD_get hp0] at this
      have cn := hRq.blk.cell hp0 35 (by omega); rw [Place.at35, hnx0, Nat.zero_mul, Nat.zero_add] at cn; clear hnx0 hp0; have HRQ := Lib.hid hRq; have HBQ := Lib.hid hbq; have HKQ := Lib.hid hkq; clear hRq hbq hkq c6 c7 c8; go_wp2_with fail
      go_loopg [4] I.length (fun g s4 wr => ∃ (m i : Nat), s4 = .int .i64 i ∧ g = m ∧ m ≤ I.length ∧ wr = wq ∧ Hid ((0 :: I)[m]? = some i) ∧ Hid (res = (L.take m).reverse.find? zeroPins))
      case atStart =>
        refine ⟨I.length, x0, rfl, rfl, Nat.le_refl _, rfl, Lib.hid hx0, ?_⟩; refine Lib.hid ?_; rw [hV, List.take_of_length_le]; rw [HLL.out, List.length_map]; exact Nat.le_refl _
      case round =>
        obtain ⟨m, i, rfl, hgm, hm, rfl, HI, HF⟩ := hrel; clear cn hx0 hV
        cases m with
        | zero =>
          have hi : i = 0 := by have := HI.out; simp at this; exact this.symm
          have HN : Hid (res = none) := by rw [HF.out]; rfl
          subst hi; go_wp2_with (first | (refine wpList_store_mid rfl 25 (.tmp 2) (.tmp 59) rfl w.heap.size 0 (digC dig0).toArray (by rfl) (by first | rfl | kernel_rfl) (HBQ.out.there 0 _ (by simp)) HS0.out.1 HS0.out.2 ?_) | fail); have hbq := HBQ.out; have hwt : wr.there w.heap.size 0 (digC dig0).length := hbq.there 0 _ (by simp [digC_length]); have hr := World.rangeAt_setCells_same wr w.heap.size 0 (digC dig0) hwt; have hload := run_loadVar_mid (P := Tryz.prog) (wr.setCells w.heap.size 0 (digC dig0)) w.heap.size 0 25 (digC dig0) _ hr Tryz.underlying25 rfl (by rw [digC_length]; exact dig_size); refine bodyPost_ret (v := .tuple #[.agg (digC dig0).toArray, .bool false]) (by simp [results, Tryz.results90, asAddr, Result.andThen, hload]) rfl ⟨?_, ?_⟩
          · rw [HN.out]; rfl
          · exact Keep.setCells _ (by omega) _ _ _ HKQ.out
        | succ m =>
          have him : I[m]? = some i := by have := HI.out; simpa using this
          have hii := HRQ.out.ring.ib (List.mem_of_getElem? him); have hi0 : (0 : Int) ≤ (i : Int) := by omega
          have hi1 : (i : Int) < 65 := by omega
          have hin := int_ne' (show (i : Int) ≠ 0 by omega); obtain ⟨p, hp⟩ : ∃ p, P[i]? = some p := ⟨_, List.getElem?_eq_getElem (by have := HRQ.out.ring.len; omega)⟩
          have hpj : jarF P i = p.jar := by unfold jarF; rw [getD_get hp]
          have hLm : L[m]? = some p.jar := by rw [HLL.out, List.getElem?_map, him, ← hpj]; rfl
          have hF := HF.out; rw [take_rev hLm] at hF; have c34 := HRQ.out.blk.cell hp 34 (by omega); rw [Place.at34] at c34; by_cases hz : p.jar.pins = 0
          · have HN : Hid (res = some p.jar) := Lib.hid (by rw [hF, if_pos (by simp [zeroPins, hz])]); have hR1 := HRQ.out.blk.range hp
            have hR2 : Hid (wr.rangeAt b (i * 37) (digC p.jar.dig)) := fun j v hv => by
              refine hR1 j v ?_; have hj := (List.getElem?_eq_some_iff.1 hv).1; unfold Place.cells Jar.cells; rw [List.append_assoc, List.getElem?_append_left hj]; exact hv
            rw [hz] at c34; have HL := Lib.hid (show (Tryz.prog.info? 25).map (·.size) = some (digC p.jar.dig).length by rw [digC_length]; exact dig_size); have HL2 := Lib.hid (show (Tryz.prog.info? 25).map (·.size) = some (digC p.jar.dig).toArray.size by rw [List.size_toArray, digC_length]; exact dig_size); have H1 := Lib.hid (all_oneCell_toArray (digC_one p.jar.dig)); have HPL := Lib.hid (digC_length p.jar.dig); clear hR1 hF hp hpj hLm hz him hii; obtain ⟨dd, hdd⟩ : ∃ dd, dd = p.jar.dig := ⟨_, rfl⟩
            rw [← hdd] at hR2 HL HL2 H1 HPL; have HDD := Lib.hid hdd; clear hdd
            go_wp2_with (first | (refine wpList_load_mid rfl 25 (.tmp 57) rfl b (i * 37) (by rfl) (digC dd) _ hR2.out Tryz.underlying25 rfl HL.out ?_) | (refine wpList_store_mid rfl 25 (.tmp 2) (.tmp 58) rfl w.heap.size 0 (digC dd).toArray (by rfl) (by rfl) (HBQ.out.there 0 _ (by simp [digC_length])) HL2.out H1.out ?_) | fail)
            (try simp only [sq]); (try go_wp2_with fail); have hbq := HBQ.out; have hwt : wr.there w.heap.size 0 (digC dd).length := hbq.there 0 _ (by simp [digC_length]); have hr := World.rangeAt_setCells_same wr w.heap.size 0 (digC dd) hwt; have hload := run_loadVar_mid (P := Tryz.prog) (wr.setCells w.heap.size 0 (digC dd)) w.heap.size 0 25 (digC dd) _ hr Tryz.underlying25 rfl (by rw [digC_length]; exact dig_size); refine bodyPost_ret (v := .tuple #[.agg (digC dd).toArray, .bool true]) (by simp [results, Tryz.results90, asAddr, Result.andThen, hload]) rfl ⟨?_, ?_⟩
            · rw [HN.out, HDD.out]; rfl
            · exact Keep.setCells _ (by omega) _ _ _ HKQ.out
          · have HN : Hid (res = (L.take m).reverse.find? zeroPins) := Lib.hid (by rw [hF, if_neg (by simp [zeroPins, hz])]); obtain ⟨z1, z2⟩ := int_ne' hz; obtain ⟨i', hi'⟩ : ∃ x, (0 :: I)[m]? = some x := ⟨_, List.getElem?_eq_getElem (by simp; omega)⟩
            have hnx : p.next = i' := by
              have h1 : (0 :: (I ++ [0]))[m]? = some i' := by
                rw [← hi', ← List.cons_append, List.getElem?_append_left (by simp; omega)]
              have h2 : (0 :: (I ++ [0]))[m + 1]? = some i := by
                rw [List.getElem?_cons_succ, List.getElem?_append_left (by omega), him]
              have := (HRQ.out.ring.seg.step _ _ _ h1 h2).2; unfold nxtF at this; rwa [getD_get hp] at this
            have c35 := HRQ.out.blk.cell hp 35 (by omega); rw [Place.at35, hnx] at c35; have HI' := Lib.hid hi'; clear hF hp hpj hLm him hii hnx hi' HI; generalize p.jar.pins = pn at c34 hz z1 z2; go_wp2_with fail
            go_roundg m
            case measure => omega
            case rel => exact ⟨m, i', rfl, rfl, by omega, rfl, HI', HN⟩
  · rw [if_neg (by omega)] at hV; have hle' : decide (total ≤ budget) = false := by simp; omega
    clear hle; go_enter Tryz.func90, Tryz.ntmps90; go_wp2_with fail; refine wp_region_quiet_lit (by kernel_rfl) (by kernel_rfl) ?_
    repeat (go_big_quiet_step (fail))
    refine wpQuiet_nil ?_; intro _ hw'; obtain ⟨nq, hw''⟩ := hw'; subst hw''; have hkq := HKA.out.drewN nq; have hbq := HBA.out.drewN nq; have hRq : RkW (wA.drewN nq) b P fv bm budget total pinned M I F := HH.out.keep0 ((Keep.refl [] wA).drewN nq); generalize wA.drewN nq = wq at hkq hbq hRq; obtain ⟨x0, hx0⟩ : ∃ x, (0 :: I)[I.length]? = some x := ⟨_, List.getElem?_eq_getElem (by simp)⟩
    obtain ⟨p0, hp0⟩ : ∃ p, P[0]? = some p := ⟨_, List.getElem?_eq_getElem (by have := hRq.ring.len; omega)⟩
    have hnx0 : p0.next = x0 := by
      have h1 : (0 :: (I ++ [0]))[I.length]? = some x0 := by
        rw [← hx0, ← List.cons_append, List.getElem?_append_left (by simp)]
      have h2 : (0 :: (I ++ [0]))[I.length + 1]? = some 0 := by simp
      have := (hRq.ring.seg.step _ _ _ h1 h2).2; unfold nxtF at this; rwa [getD_get hp0] at this
    have cn := hRq.blk.cell hp0 35 (by omega); rw [Place.at35, hnx0, Nat.zero_mul, Nat.zero_add] at cn; clear hnx0 hp0; have HRQ := Lib.hid hRq; have HBQ := Lib.hid hbq; have HKQ := Lib.hid hkq; clear hRq hbq hkq c6 c7 c8; go_wp2_with fail
    go_loopg [4] I.length (fun g s4 wr => ∃ (m i : Nat), s4 = .int .i64 i ∧ g = m ∧ m ≤ I.length ∧ wr = wq ∧ Hid ((0 :: I)[m]? = some i) ∧ Hid (res = (L.take m).reverse.find? zeroPins))
    case atStart =>
      refine ⟨I.length, x0, rfl, rfl, Nat.le_refl _, rfl, Lib.hid hx0, ?_⟩; refine Lib.hid ?_; rw [hV, List.take_of_length_le]; rw [HLL.out, List.length_map]; exact Nat.le_refl _
    case round =>
      obtain ⟨m, i, rfl, hgm, hm, rfl, HI, HF⟩ := hrel; clear cn hx0 hV
      cases m with
      | zero =>
        have hi : i = 0 := by have := HI.out; simp at this; exact this.symm
        have HN : Hid (res = none) := by rw [HF.out]; rfl
        subst hi; go_wp2_with (first | (refine wpList_store_mid rfl 25 (.tmp 2) (.tmp 59) rfl w.heap.size 0 (digC dig0).toArray (by rfl) (by first | rfl | kernel_rfl) (HBQ.out.there 0 _ (by simp)) HS0.out.1 HS0.out.2 ?_) | fail); have hbq := HBQ.out; have hwt : wr.there w.heap.size 0 (digC dig0).length := hbq.there 0 _ (by simp [digC_length]); have hr := World.rangeAt_setCells_same wr w.heap.size 0 (digC dig0) hwt; have hload := run_loadVar_mid (P := Tryz.prog) (wr.setCells w.heap.size 0 (digC dig0)) w.heap.size 0 25 (digC dig0) _ hr Tryz.underlying25 rfl (by rw [digC_length]; exact dig_size); refine bodyPost_ret (v := .tuple #[.agg (digC dig0).toArray, .bool false]) (by simp [results, Tryz.results90, asAddr, Result.andThen, hload]) rfl ⟨?_, ?_⟩
        · rw [HN.out]; rfl
        · exact Keep.setCells _ (by omega) _ _ _ HKQ.out
      | succ m =>
        have him : I[m]? = some i := by have := HI.out; simpa using this
        have hii := HRQ.out.ring.ib (List.mem_of_getElem? him); have hi0 : (0 : Int) ≤ (i : Int) := by omega
        have hi1 : (i : Int) < 65 := by omega
        have hin := int_ne' (show (i : Int) ≠ 0 by omega); obtain ⟨p, hp⟩ : ∃ p, P[i]? = some p := ⟨_, List.getElem?_eq_getElem (by have := HRQ.out.ring.len; omega)⟩
        have hpj : jarF P i = p.jar := by unfold jarF; rw [getD_get hp]
        have hLm : L[m]? = some p.jar := by rw [HLL.out, List.getElem?_map, him, ← hpj]; rfl
        have hF := HF.out; rw [take_rev hLm] at hF; have c34 := HRQ.out.blk.cell hp 34 (by omega); rw [Place.at34] at c34; by_cases hz : p.jar.pins = 0
        · have HN : Hid (res = some p.jar) := Lib.hid (by rw [hF, if_pos (by simp [zeroPins, hz])]); have hR1 := HRQ.out.blk.range hp
          have hR2 : Hid (wr.rangeAt b (i * 37) (digC p.jar.dig)) := fun j v hv => by
            refine hR1 j v ?_; have hj := (List.getElem?_eq_some_iff.1 hv).1; unfold Place.cells Jar.cells; rw [List.append_assoc, List.getElem?_append_left hj]; exact hv
          rw [hz] at c34; have HL := Lib.hid (show (Tryz.prog.info? 25).map (·.size) = some (digC p.jar.dig).length by rw [digC_length]; exact dig_size); have HL2 := Lib.hid (show (Tryz.prog.info? 25).map (·.size) = some (digC p.jar.dig).toArray.size by rw [List.size_toArray, digC_length]; exact dig_size); have H1 := Lib.hid (all_oneCell_toArray (digC_one p.jar.dig)); have HPL := Lib.hid (digC_length p.jar.dig); clear hR1 hF hp hpj hLm hz him hii; obtain ⟨dd, hdd⟩ : ∃ dd, dd = p.jar.dig := ⟨_, rfl⟩
          rw [← hdd] at hR2 HL HL2 H1 HPL; have HDD := Lib.hid hdd; clear hdd
          go_wp2_with (first | (refine wpList_load_mid rfl 25 (.tmp 57) rfl b (i * 37) (by rfl) (digC dd) _ hR2.out Tryz.underlying25 rfl HL.out ?_) | (refine wpList_store_mid rfl 25 (.tmp 2) (.tmp 58) rfl w.heap.size 0 (digC dd).toArray (by rfl) (by rfl) (HBQ.out.there 0 _ (by simp [digC_length])) HL2.out H1.out ?_) | fail)
          (try simp only [sq]); (try go_wp2_with fail); have hbq := HBQ.out; have hwt : wr.there w.heap.size 0 (digC dd).length := hbq.there 0 _ (by simp [digC_length]); have hr := World.rangeAt_setCells_same wr w.heap.size 0 (digC dd) hwt; have hload := run_loadVar_mid (P := Tryz.prog) (wr.setCells w.heap.size 0 (digC dd)) w.heap.size 0 25 (digC dd) _ hr Tryz.underlying25 rfl (by rw [digC_length]; exact dig_size); refine bodyPost_ret (v := .tuple #[.agg (digC dd).toArray, .bool true]) (by simp [results, Tryz.results90, asAddr, Result.andThen, hload]) rfl ⟨?_, ?_⟩
          · rw [HN.out, HDD.out]; rfl
          · exact Keep.setCells _ (by omega) _ _ _ HKQ.out
        · have HN : Hid (res = (L.take m).reverse.find? zeroPins) := Lib.hid (by rw [hF, if_neg (by simp [zeroPins, hz])]); obtain ⟨z1, z2⟩ := int_ne' hz; obtain ⟨i', hi'⟩ : ∃ x, (0 :: I)[m]? = some x := ⟨_, List.getElem?_eq_getElem (by simp; omega)⟩
          have hnx : p.next = i' := by
            have h1 : (0 :: (I ++ [0]))[m]? = some i' := by
              rw [← hi', ← List.cons_append, List.getElem?_append_left (by simp; omega)]
            have h2 : (0 :: (I ++ [0]))[m + 1]? = some i := by
              rw [List.getElem?_cons_succ, List.getElem?_append_left (by omega), him]
            have := (HRQ.out.ring.seg.step _ _ _ h1 h2).2; unfold nxtF at this; rwa [getD_get hp] at this
          have c35 := HRQ.out.blk.cell hp 35 (by omega); rw [Place.at35, hnx] at c35; have HI' := Lib.hid hi'; clear hF hp hpj hLm him hii hnx hi' HI; generalize p.jar.pins = pn at c34 hz z1 z2; go_wp2_with fail
          go_roundg m
          case measure => omega
          case rel => exact ⟨m, i', rfl, rfl, by omega, rfl, HI', HN⟩
theorem jarinfo : (Tryz.prog.info? 63).map (fun i => (i.zero, i.size, i.bytes)) = some (some (.agg jar0.cells.toArray), 35, 64) := by kernel_rfl
theorem jarinfo' : ∃ i0, Hid (Tryz.prog.info? 63 = some i0 ∧ i0.zero = some (.agg jar0.cells.toArray) ∧ i0.size = 35 ∧ i0.bytes = 64) := by
  obtain ⟨i0, hi, hz0, hz1, hz2⟩ := info_parts jarinfo; exact ⟨i0, hi, hz0, hz1, hz2⟩
theorem wpList_buildJar {ops : Array Oper} {rest : List Oper} {o : Oper} {a : Act} {w : World} {Q : Exit → Act → World → Prop} (hg : o.guard = none) (t : TypeId) (x : Operand) (ho : o.op = .buildSlice t 1 #[(0, x)])
    {is : TypeInfo} (Hs : Hid (Tryz.prog.info? 63 = some is ∧ is.zero = some (.agg jar0.cells.toArray) ∧ is.size = 35 ∧ is.bytes = 64)) (hu : Tryz.prog.underlying t = some (.slice 63)) (j : Jar) (hx : a.eval x = .agg j.cells.toArray)
    (h : wpList Tryz.prog ops Q rest (a.put o.dst (.slice (some ⟨w.heap.size, 0, none⟩) 1 1)) (w.alloc (.cells j.cells.toArray 63))) : wpList Tryz.prog ops Q (o :: rest) a w := by
  refine wpList_buildSlice hg t 63 1 #[(0, x)] ho j.cells.toArray is _ hu Hs.out.1 Hs.out.2.1 (by rw [Hs.out.2.2.1]; omega) (by rw [Hs.out.2.2.1]; omega) ?_ h; rw [Hs.out.2.2.1]
  have := Great.fill_whole (s := 35) (by omega) [.agg j.cells.toArray] ((Array.range (1 * 35)).map fun k => (Value.agg jar0.cells.toArray).cells[k % (Value.agg jar0.cells.toArray).cells.size]!) (by
    intro v hv; simp at hv; subst hv; show j.cells.toArray.size = 35; simp [Jar.cells_length]) (by simp)
  simp only [List.zipIdx_cons, List.zipIdx_nil, List.map_cons, List.map_nil, List.flatMap_cons, List.flatMap_nil, List.append_nil] at this; have e : (#[(0, x)].map fun (i, x) => (i, a.eval x)).toList = [((0 : Nat), Value.agg j.cells.toArray)] := by simp [hx]
  rw [e]; exact this
theorem rack_List {S : List Nat} (b : Nat) (budget : Int) (L : List Jar) (w : World) (h : Rk S w b budget L) :
    Calls Tryz.prog 38 #[.pointer (some ⟨b, 0, none⟩)] w fun e w' => ∃ v, e = .returned v ∧ Own Jar.cells 35 w.heap.size 63 w' v L ∧ Keep [] w w' := by
  have hmost := h.most; obtain ⟨P, fv, bm, total, pinned, M, I, F, h1, hL, m1, m2, m3⟩ := h; obtain ⟨x0, hx0⟩ : ∃ x, (I ++ [0])[0]? = some x := ⟨_, List.getElem?_eq_getElem (by simp)⟩
  obtain ⟨p0, hp0⟩ : ∃ p, P[0]? = some p := ⟨_, List.getElem?_eq_getElem (by have := h1.ring.len; omega)⟩
  have hnx0 : p0.prev = x0 := by
    have h1' : (0 :: (I ++ [0]))[0]? = some 0 := rfl; have h2 : (0 :: (I ++ [0]))[0 + 1]? = some x0 := by rw [← hx0]; rfl
    have := (h1.ring.seg.step _ _ _ h1' h2).1; unfold prvF at this; rwa [getD_get hp0] at this
  have cn := h1.blk.cell hp0 36 (by omega); rw [Place.at36, hnx0, Nat.zero_mul, Nat.zero_add] at cn; have hLl : I.length = L.length := by rw [hL, List.length_map]
  obtain ⟨is, Hs⟩ := jarinfo'; have HH := Lib.hid h1; have HLL := Lib.hid hL; clear h1 hnx0 hp0 hL; go_enter Tryz.func38, Tryz.ntmps38; go_wp2_with fail
  go_loopg [2, 3] L.length (fun g s2 s3 wr => ∃ (m i : Nat), s3 = .int .i64 i ∧ g = L.length - m ∧ m ≤ L.length ∧ Hid ((I ++ [0])[m]? = some i) ∧ Hid (Keep [] w wr) ∧ Hid (Own Jar.cells 35 w.heap.size 63 wr s2 (L.take m)))
  case atStart => exact ⟨0, x0, rfl, by omega, by omega, Lib.hid hx0, Lib.hid (Keep.refl _ _), Lib.hid (Own.nil _ _ _ _ _)⟩
  case round =>
    obtain ⟨m, i, rfl, hgm, hm, HI, HK, HO⟩ := hrel; clear cn hx0; by_cases hmL : m < L.length
    · have him : I[m]? = some i := by have := HI.out; rwa [List.getElem?_append_left (by omega)] at this
      have hii := HH.out.ring.ib (List.mem_of_getElem? him); have hi0 : (0 : Int) ≤ (i : Int) := by omega
      have hi1 : (i : Int) < 65 := by omega
      have hin := int_ne' (show (i : Int) ≠ 0 by omega); obtain ⟨p, hp⟩ : ∃ p, P[i]? = some p := ⟨_, List.getElem?_eq_getElem (by have := HH.out.ring.len; omega)⟩
      have hpj : jarF P i = p.jar := by unfold jarF; rw [getD_get hp]
      have hLm : L[m]? = some p.jar := by rw [HLL.out, List.getElem?_map, him, ← hpj]; rfl
      obtain ⟨i', hi'⟩ : ∃ x, (I ++ [0])[m + 1]? = some x := ⟨_, List.getElem?_eq_getElem (by simp; omega)⟩
      have hpv : p.prev = i' := by
        have h1 : (0 :: (I ++ [0]))[m + 1]? = some i := by rw [List.getElem?_cons_succ]; exact HI.out
        have h2 : (0 :: (I ++ [0]))[m + 1 + 1]? = some i' := by rw [List.getElem?_cons_succ]; exact hi'
        have := (HH.out.ring.seg.step _ _ _ h1 h2).1; unfold prvF at this; rwa [getD_get hp] at this
      have hW := HH.out.keep0 HK.out; have hR1 := hW.blk.range hp
      have hR2 : Hid (wr.rangeAt b (i * 37) p.jar.cells) := fun j v hv => by
        refine hR1 j v ?_; unfold Place.cells; rw [List.getElem?_append_left (List.getElem?_eq_some_iff.1 hv).1]; exact hv
      have HL := Lib.hid (show (Tryz.prog.info? 63).map (·.size) = some p.jar.cells.length by rw [Jar.cells_length]; exact jar_size); have HPF := Lib.hid (fun w' (k : Keep [] w w') => (HH.out.keep0 k).blk.cell hp 36 (by omega)); rw [Place.at36, hpv] at HPF; have HT := Lib.hid (take_rev.take_snoc' hLm); have HI' := Lib.hid hi'; have htl : (L.take m).length = m := by rw [List.length_take]; omega
      clear hW hR1 hp hpj hLm hi' hpv him hii HI; go_wp2_with (first | (refine wpList_load_mid rfl 63 (.tmp 27) rfl b (i * 37) (by rfl) p.jar.cells _ hR2.out Tryz.underlying63 rfl HL.out ?_) | (refine wpList_buildJar rfl 29 (.tmp 28) rfl Hs Tryz.underlying29 p.jar (by rfl) ?_) | (at_builtin; go_must (refine wpList_append2 rfl _ _ 29 rfl is _ 64 Tryz.underlying29 Hs (by rfl) (by decide) Jar.cells_length Jar.one w wr rfl HK.out (by rfl) HO.out p.jar _ rfl _ (by rfl) (by rw [htl]; show m + 1 ≤ 9223372036854775807; omega) (by rw [htl]; omega) ?_); intro v' w1 hown' hk' hside; have c36 := HPF.out _ hk') | fail)
      go_roundg (L.length - (m + 1))
      case measure => omega
      case rel =>
        refine ⟨m + 1, i', rfl, rfl, by omega, HI', Lib.hid hk', Lib.hid ?_⟩; rw [HT.out]; exact hown'
    · have hme : m = L.length := by omega
      subst hme; have hi : i = 0 := by have := HI.out; rw [List.getElem?_append_right (by omega), hLl, Nat.sub_self] at this; simpa using this.symm
      subst hi; have HOL : Hid (Own Jar.cells 35 w.heap.size 63 wr u2 L) := by have := HO.out; rwa [List.take_length] at this
      clear HO; go_wp2_with fail; go_ret; exact ⟨_, rfl, HOL.out, HK.out⟩
theorem ownsMap_fit {H : Type} {P : Program} {k : TypeId} {R : Value → Option (DataW H × List MemPlace)} {w : World} {b n : Nat} {D : DataW H} (h : w.ownsMap P k R b n D) : w.ownsMap P k R b (Maps.size D) D := by
  obtain ⟨es, clock, hb, F, hs, rfl⟩ := h; exact ⟨es, clock, hb, F, by simp [Maps.size, length_sorted], rfl⟩
theorem keep_turned {w w' : World} {b : Nat} (h : w.mapTurned w' b) : Keep [b] w w' := (Keep.refl [b] w).grown h.grown (fun k hk _ => by simp at hk ⊢; exact hk.symm)
theorem dig_ne {d e : Dig} (h : e ≠ d) : (Lit.string e.1) ≠ Lit.string d.1 := fun x => h (Subtype.ext (by injection x))
theorem MapIs.made (w : World) : MapIs (w.alloc (.map #[] 0)) w.heap.size (fun _ => 0) 0 :=
  ⟨.map [], World.ownsMap_made w _ _ _, rfl, fun d => ⟨rfl, rfl⟩⟩
theorem MapIs.put {w : World} {bm n : Nat} {M : Dig → Nat} (h : MapIs w bm M n) (d : Dig) (i : Nat) (hi : 0 < i) (hi2 : i < 65) (hd : M d = 0) (hn : n < maxLen) :
    ∃ w', (Instr.mapUpdate 137 (.map (some bm)) (.agg (digC d).toArray) (.int .i64 (i : Nat))).run Tryz.prog w = .ok () w' ∧ MapIs w' bm (fun e => if e = d then i else M e) (n + 1) ∧ w.mapTurned w' bm := by
  obtain ⟨D, hown, hs, hat⟩ := h; have hT := hown.tidy dig_law; have hk : WideAt.IsKeyLit (Lit.string d.1) := by first | rfl | trivial | decide
  obtain ⟨w', hrun, ho', ht⟩ := hown.store (val := .int .i64 (i : Nat)) (d := .lit (.int .i64 (i : Nat))) (ps := []) dig_law Tryz.underlying137 hn (dig_key d) (plainElem_int Tryz.underlying3 (by simp [Lit.wf, IntKind.min, IntKind.max, IntKind.signed, IntKind.bits]; omega)); refine ⟨w', hrun, ⟨_, ho', ?_, ?_⟩, ht⟩
  · rw [size_put hT, (hat d).2, hd, hs]; simp
  · intro e; dsimp only; by_cases he : e = d
    · subst he; rw [atKey_put_same hT.isMap hk, has_put_same hT.isMap hk]; have hv : (if e = e then i else M e) = i := if_pos rfl; simp only [hv]; exact ⟨rfl, by simp; omega⟩
    · rw [atKey_put_other (dig_ne he), has_put_other (dig_ne he)]; have hv : (if e = d then i else M e) = M e := if_neg he; simp only [hv]; exact hat e
theorem MapIs.drop {w : World} {bm n : Nat} {M : Dig → Nat} (h : MapIs w bm M n) (d : Dig) (hd : M d ≠ 0) (ty : TypeId) :
    ∃ w', (Builtin.delete_ #[137, 25] ty #[.map (some bm), .agg (digC d).toArray]).run Tryz.prog w = .ok (.tuple #[]) w' ∧ MapIs w' bm (fun e => if e = d then 0 else M e) (n - 1) ∧ w.mapTurned w' bm := by
  obtain ⟨D, hown, hs, hat⟩ := h; have hT := hown.tidy dig_law; obtain ⟨w', hrun, ho', ht⟩ := hown.drop dig_law Tryz.underlying137 (dig_key d) ty
  have hsz : Maps.size (D.del (.string d.1)) = n - 1 := by
    have := size_del (k := Lit.string d.1) hT; rw [(hat d).2, hs] at this; simp [hd] at this; omega
  refine ⟨w', hrun, ⟨_, by have := ownsMap_fit ho'; rwa [hsz] at this, hsz, ?_⟩, ht⟩; intro e; dsimp only; by_cases he : e = d
  · subst he; rw [atKey_del_same, has_del_same]; have hv : (if e = e then 0 else M e) = 0 := if_pos rfl; simp only [hv]; exact ⟨rfl, rfl⟩
  · rw [atKey_del_other (dig_ne he), has_del_other (dig_ne he)]; have hv : (if e = d then 0 else M e) = M e := if_neg he; simp only [hv]; exact hat e
theorem wpList_append5 {P : Program} {ops : Array Oper} {rest : List Oper} {o : Oper} {a : Act} {Q : Exit → Act → World → Prop} (hgd : o.guard = none) (s x : Operand) (t : TypeId)
    (ho : o.op = .call { callee := .builtin .append, args := #[s, x], argTypes := #[t, t] })
    {α : Type} {enc : α → List Value} {n base : Nat} {E : TypeId} {L : List α} {v : Value}
    (i : TypeInfo) (z : Value) (bytes : Nat) (ht : P.underlying t = some (.slice E)) (HI : Hid (P.info? E = some i ∧ i.zero = some z ∧ i.size = n ∧ i.bytes = bytes)) (hzs : z.cells.size = n) (hn0 : 0 < n)
    (hn : ∀ x, (enc x).length = n) (h1 : ∀ x, ∀ u ∈ enc x, u.oneCell' = true)
    (w : World) (hs : a.eval s = v) (hown : Own enc n base E w v L) (hbw : base ≤ w.heap.size) (y : α) (cs : List Value) (hcs : cs = enc y) (c : Nat) (hx : a.eval x = .slice (some ⟨w.heap.size, 0, none⟩) 1 c)
    (h63 : L.length + 1 ≤ maxLen) (hbytes : (L.length + 1) * bytes ≤ 140737488355328)
    (h : ∀ v' w', Own enc n base E w' v' (L ++ [y]) → w.grownBy w' v.ownBlock → (v'.ownBlock = v.ownBlock ∨ v'.ownBlock = some (w.heap.size + 1)) → wpList P ops Q rest (a.put o.dst v') w') : wpList P ops Q (o :: rest) a (w.alloc (.cells cs.toArray E)) := by
  subst hcs; refine wpList_append_own_at _ hgd s x t ho base E i z n bytes ht HI.out.1 HI.out.2.1 HI.out.2.2.1 HI.out.2.2.2 hzs hn0 v L.length (rows enc L) hs (hown.alloc _) ⟨w.heap.size, 0, none⟩ 1 c (enc y) hx (by rw [hn]; omega) ?_ (h1 y) h63 hbytes (by simp; omega) ?_
  · intro j u hj; have hA := Blk.new w (enc y) E; have : (⟨w.heap.size, 0, none⟩ : Addr).add j = ⟨w.heap.size, j, none⟩ := by unfold Addr.add; split <;> simp_all
    rw [this, hA.cell j]; exact hj
  · intro v' w' hown' hg _ hat
    have hg' : w.grownBy w' v.ownBlock := by
      have h0 := World.grownBy_alloc w (.cells (enc y).toArray E) v.ownBlock; exact ⟨hg.os.trans h0.os, hg.tape.trans h0.tape, hg.output.trans h0.output, Nat.le_trans h0.size hg.size, fun k hk hne => (hg.block k (Nat.lt_of_lt_of_le hk h0.size) hne).trans (h0.block k hk hne)⟩
    refine h v' w' ?_ hg' ?_
    · have : rows enc (L ++ [y]) = rows enc L ++ enc y := by simp [rows]
      unfold Own; rw [this, List.length_append]; exact hown'
    · simpa using hat
theorem intinfo : (Tryz.prog.info? 3).map (fun i => (i.zero, i.size, i.bytes)) = some (some (.int .i64 0), 1, 8) := by kernel_rfl
theorem intinfo' : ∃ i0, Hid (Tryz.prog.info? 3 = some i0 ∧ i0.zero = some (.int .i64 0) ∧ i0.size = 1 ∧ i0.bytes = 8) := by
  obtain ⟨i0, hi, hz0, hz1, hz2⟩ := info_parts intinfo; exact ⟨i0, hi, hz0, hz1, hz2⟩
def place0 : Place := ⟨jar0, 0, 0⟩
def rk0 (bm : Nat) (budget : Int) : List Value := rows Place.cells (List.replicate 65 place0) ++ [.slice none 0 0, .map (some bm), .int .i64 budget, .int .i64 0, .int .i64 0]
theorem rk0_built (bm : Nat) (budget : Int) : Tryz.prog.built 139 [(2, .map (some bm)), (3, .int .i64 budget)] = some (rk0 bm budget).toArray := by kernel_rfl
theorem wpList_buildRk {ops : Array Oper} {rest : List Oper} {o : Oper} {a : Act} {w : World} {Q : Exit → Act → World → Prop} (hg : o.guard = none) {u v : Value} {cs : List Value} (HB : Hid (Tryz.prog.built 139 [(2, u), (3, v)] = some cs.toArray)) (x y : Operand)
    (ho : o.op = .build 139 #[(2, x), (3, y)]) (hx : a.eval x = u) (hy : a.eval y = v) (d : Option Tmp) (hd : o.dst = d) (h : wpList Tryz.prog ops Q rest (a.put d (.agg cs.toArray)) w) : wpList Tryz.prog ops Q (o :: rest) a w :=
  wpList_buildTo hg _ _ ho d hd cs.toArray (by
    have e : (#[(2, x), (3, y)].map fun (i, x) => (i, a.eval x)).toList = [(2, u), (3, v)] := by simp [hx, hy]
    rw [e]
    exact HB.out) h
def freeL (k : Nat) : List Nat := (List.range k).map fun j => 64 - j
theorem freeL_succ (k : Nat) : freeL (k + 1) = freeL k ++ [64 - k] := by simp [freeL, List.range_succ]
theorem freeL_all : freeL 64 = (List.range' 1 64).reverse := by decide
theorem ring0 : Ring (List.replicate 65 place0) [] (freeL 64) (fun _ => 0) := by
  refine ⟨by simp, ⟨rfl, rfl⟩, ?_, fun d h => absurd rfl h, fun i h => by simp at h⟩; rw [List.nil_append, freeL_all]; exact List.reverse_perm _
theorem rk0_blk {w : World} {b bm : Nat} {budget : Int} (h : Blk w b 139 (rk0 bm budget)) : RkBlk w b (List.replicate 65 place0) (.slice none 0 0) bm budget 0 0 := ⟨by simp, h⟩
structure NewRk (w wr : World) (b bm : Nat) (budget : Int) (fv : Value) (k : Nat) : Prop where
  blk : RkBlk wr b (List.replicate 65 place0) fv bm budget 0 0
  map : MapIs wr bm (fun _ => 0) 0
  own : Own intC 1 w.heap.size 3 wr fv (freeL k)
  nf : ∀ g, fv.ownBlock = some g → g ≠ b ∧ g ≠ bm
  ne : bm ≠ b
  keep : Keep [] w wr
theorem NewRk.store {w wr w1 : World} {b bm : Nat} {budget : Int} {fv v' : Value} {k : Nat} (h : NewRk w wr b bm budget fv k) (ho : Own intC 1 w.heap.size 3 w1 v' (freeL k ++ [64 - k])) (hg : wr.grownBy w1 fv.ownBlock) (hat : v'.ownBlock = fv.ownBlock ∨ v'.ownBlock = some (wr.heap.size + 1)) (hb : w.heap.size ≤ b) :
    RkBlk w1 b (List.replicate 65 place0) fv bm budget 0 0 ∧ NewRk w (w1.setCell ⟨b, 2405, none⟩ v') b bm budget v' (k + 1) := by
  have hk1 : Keep [] w w1 := h.keep.grown hg (fun g hg' hlt => by have := (h.own.lt g hg').1; omega); have hkr : Keep fv.ownBlock.toList wr w1 := (Keep.refl _ _).grown hg (fun g hg' _ => by simp [hg']); have hnb : b ∉ fv.ownBlock.toList := fun hm => (h.nf b (by simpa using hm)).1 rfl
  have hnm : bm ∉ fv.ownBlock.toList := fun hm => (h.nf bm (by simpa using hm)).2 rfl
  have hb1 := h.blk.keep hkr hnb; have hlb := h.blk.2.lt; have hlm := h.map.lt
  have hnf : ∀ g, v'.ownBlock = some g → g ≠ b ∧ g ≠ bm := fun g hg' => by
    rcases hat with e | e
    · exact h.nf g (e ▸ hg')
    · rw [e] at hg'; simp at hg'; omega
  have hks : Keep [b] w1 (w1.setCell ⟨b, 2405, none⟩ v') := (Keep.refl _ _).setCell _ _ (by simp); refine ⟨hb1, hb1.setTail 0 v' v' bm budget 0 0 rfl, (h.map.keep hkr hnm).keep hks (by simp; exact h.ne), ?_, hnf, h.ne, hk1.setCell _ _ (by simp; omega)⟩; rw [freeL_succ]; exact ho.keep hks (fun g hg' => by simp; exact (hnf g hg').1)
theorem rack_New (budget : Int) (w : World) (h0 : 0 ≤ budget) (h1 : budget ≤ 1099511627776) :
    Calls Tryz.prog 79 #[.int .i64 budget] w fun e w' => ∃ b S, e = .returned (.tuple #[.pointer (some ⟨b, 0, none⟩), .int .i64 0]) ∧ Rk S w' b budget [] ∧ (∀ k ∈ S, w.heap.size ≤ k) ∧ Keep [] w w' := by
  have h1' : ¬ budget > 1099511627776 := by omega
  have h0' : ¬ budget < 0 := by omega
  clear h0 h1; have hbu := rk0_built w.heap.size budget
  have hN : NewRk w ((w.alloc (.map #[] 0)).alloc (.cells (rk0 w.heap.size budget).toArray 139)) (w.heap.size + 1) w.heap.size budget (.slice none 0 0) 0 := by
    have hb := Blk.newA (w.alloc (.map #[] 0)) (rk0 w.heap.size budget).toArray 139; simp at hb; exact ⟨rk0_blk hb, (MapIs.made w).alloc _, Own.nil _ _ _ _ _, by simp [Value.ownBlock], by omega, ((Keep.refl _ _).alloc _).alloc _⟩
  generalize rk0 w.heap.size budget = cs at hbu hN; have HBU := Lib.hid hbu; obtain ⟨is, Hs⟩ := intinfo'; clear hbu; have hmm := @run_makeMap Tryz.prog; go_enter Tryz.func79, Tryz.ntmps79
  go_wp2_with (first | (refine wpList_buildRk rfl HBU _ _ rfl (by rfl) (by rfl) (some 14) rfl ?_) | fail); generalize hwA : (w.alloc (.map #[] 0)).alloc (.cells cs.toArray 139) = wA at hN; (try rw [hwA]); clear hwA
  go_loopg [5] 64 (fun g s5 wr => ∃ (k : Nat) (fv : Value), s5 = .int .i64 (64 - (k : Int)) ∧ k ≤ 64 ∧ g = 64 - k ∧ Hid (NewRk w wr (w.heap.size + 1) w.heap.size budget fv k))
  case atStart => exact ⟨0, _, rfl, by omega, rfl, Lib.hid hN⟩
  case round =>
    obtain ⟨k, fv, rfl, hk, hgk, HN⟩ := hrel; clear hN; by_cases hlt : k < 64
    · have c5 : wr.cell? ⟨w.heap.size + 1, 2405, none⟩ = some fv := HN.out.blk.tail 0; have hgt : ((64 - k : Nat) : Int) > 0 := by omega
      have hfl : (freeL k).length = k := by simp [freeL]
      have hsz := HN.out.keep.size; have hnat : (64 - (k : Int)) = ((64 - k : Nat) : Int) := by omega
      have hw1 := IntWalk.i64_in (((64 - k : Nat) : Int) - 1) (by omega); go_wp2_with (first | (at_builtin; go_must (refine wpList_append5 rfl _ _ 124 rfl is _ 8 Tryz.underlying124 Hs (by rfl) (by decide) intC_length intC_one wr (by rfl) HN.out.own hsz (64 - k) _ (by rfl) _ (by rfl) (by rw [hfl]; show k + 1 ≤ 9223372036854775807; omega) (by rw [hfl]; omega) ?_); intro v' w1 hown' hg' hat'; obtain ⟨va, vc, rfl, _⟩ := hown'.shape; have hst := HN.out.store hown' hg' hat' (by omega); have d5 : w1.cell? ⟨w.heap.size + 1, 2405, none⟩ = some fv := hst.1.tail 0; have f5 := hst.1.2.frozen; have hN2 := Lib.hid hst.2; clear hst) | fail)
      go_roundg (64 - (k + 1))
      case measure => omega
      case rel =>
        rw [show (freeL k ++ [64 - k]).length = k + 1 by simp [hfl]] at hN2; exact ⟨k + 1, _, congrArg (Value.int .i64) (by omega), by omega, by omega, hN2⟩
    · have hke : k = 64 := by omega
      subst hke; go_wp2_with fail; go_ret2; refine ⟨_, w.heap.size :: (w.heap.size + 1) :: fv.ownBlock.toList, rfl, ⟨List.replicate 65 place0, fv, w.heap.size, 0, 0, fun _ => 0, [], freeL 64, ⟨HN.out.blk, HN.out.map, HN.out.own.lower (Nat.zero_le _), ring0, HN.out.ne, HN.out.nf, rfl, rfl, by simp⟩, rfl, by simp, by simp, fun g hg => by simp [hg]⟩, ?_, HN.out.keep⟩; intro x hx; simp at hx; rcases hx with rfl | rfl | hx
      · omega
      · omega
      · exact (HN.out.own.lt x hx).1
end Go.Proofs.YtkghgaopcgcheaaGreatDoor
