/- Layer 21: Victim, List. No conditions. -/
import Derived.Test.YtbfnpoknamajnaaRkG
namespace Go.Proofs.Ytbfnpoknamajnaa
open Go.RowKit Go.Maps

theorem Seg.step {prv nxt : Nat → Nat} : ∀ {I : List Nat} {x y : Nat}, Seg prv nxt x I y → ∀ (k a c : Nat), (x :: (I ++ [y]))[k]? = some a → (x :: (I ++ [y]))[k + 1]? = some c → prv a = c ∧ nxt c = a
  | [], x, y, h, k, a, c, h1, h2 => by
    cases k with
    | zero => simp at h1 h2; subst h1 h2; exact h
    | succ k => simp at h2
  | i :: r, x, y, h, k, a, c, h1, h2 => by
    cases k with
    | zero => simp at h1 h2; subst h1 h2; exact ⟨h.1, h.2.1⟩
    | succ k => exact Seg.step h.2.2 k a c (by simpa using h1) (by simpa using h2)
def zeroPins (x : Jar) : Bool := decide (x.pins = 0)
/-- the last jar that is not in use -/
def vicL (budget : Int) (L : List Jar) : Option Jar := if sumL L ≤ budget ∧ L.length < 64 then none else L.reverse.find? zeroPins
def vicD (o : Option Jar) : Dig := match o with | none => dig0 | some x => x.dig
theorem take_rev {L : List Jar} {m : Nat} {x : Jar} (h : L[m]? = some x) : (L.take (m + 1)).reverse.find? zeroPins = if zeroPins x = true then some x else (L.take m).reverse.find? zeroPins := by
  rw [take_snoc' h, List.reverse_append]
  simp only [List.reverse_cons, List.reverse_nil, List.nil_append, List.singleton_append]
  cases hz : zeroPins x with
  | true => rw [List.find?_cons_of_pos hz]; simp
  | false => rw [List.find?_cons_of_neg (by simp [hz])]; simp
where
  take_snoc' {L : List Jar} {m : Nat} {x : Jar} (h : L[m]? = some x) : L.take (m + 1) = L.take m ++ [x] := by
    rw [List.take_add_one, h]; rfl
theorem int_ne' {x y : Int} (h : x ≠ y) : (x == y) = false ∧ (x != y) = true := by simp [h]
/-- the length of a map, in a region that draws its order and only reads -/
theorem wpQuiet_maplen {P : Program} {ops : Array Oper} {C : World → Prop} {rest : List Oper} {o : Oper} {a : Act} {Q : Act → Prop} (hg : Region.wanted o (yielded ops a.tmps) = true) (x : Operand) (t : TypeId) (ho : o.op = .call { callee := .builtin .len, args := #[x], argTypes := #[t] })
    (b n : Nat) (hx : a.eval x = .map (some b)) (hS : ∀ w, C w → ∀ ty, (Builtin.len_ #[t] ty #[.map (some b)]).run P w = .ok (.int .i64 n) w)
    (h : wpQuiet P ops C Q rest (a.put o.dst (.int .i64 n))) : wpQuiet P ops C Q (o :: rest) a := by
  unfold wpQuiet
  rw [if_pos hg]
  refine ⟨_, fun w hw => ?_, h⟩
  unfold Oper.quietAt execOp
  simp [ho, resolve, invoke, builtin, hx, hS w hw o.type, Result.andThen]
  exact ⟨rfl, rfl⟩

set_option maxRecDepth 100000 in
set_option maxHeartbeats 1000000 in
theorem rack_Victim {S : List Nat} (b : Nat) (budget : Int) (L : List Jar) (w : World) (h : Rk S w b budget L) :
    Calls Try.prog 19 #[.pointer (some ⟨b, 0, none⟩)] w fun e w' => e = .returned (.tuple #[.agg (digC (vicD (vicL budget L))).toArray, .bool (vicL budget L).isSome]) ∧ Keep [] w w' := by
  obtain ⟨P, fv, bm, total, pinned, M, I, F, h1, hL, m1, m2, m3⟩ := h
  have hkA := (Keep.refl [] w).alloc (.cells (digC dig0).toArray 44)
  have hbA := Blk.newA w (digC dig0).toArray 44
  have hA := h1.keep0 hkA
  have hV : vicL budget L = if total ≤ budget ∧ I.length < 64 then none else L.reverse.find? zeroPins := by
    unfold vicL
    rw [h1.tot, ← hL, hL, List.length_map]
  generalize vicL budget L = res at hV
  rw [dig0_cells] at hkA hbA hA
  generalize hwA : w.alloc (.cells #[.int .u8 0, .int .u8 0, .int .u8 0, .int .u8 0, .int .u8 0, .int .u8 0, .int .u8 0, .int .u8 0, .int .u8 0, .int .u8 0, .int .u8 0, .int .u8 0, .int .u8 0, .int .u8 0, .int .u8 0, .int .u8 0, .int .u8 0, .int .u8 0, .int .u8 0, .int .u8 0, .int .u8 0, .int .u8 0, .int .u8 0, .int .u8 0, .int .u8 0, .int .u8 0, .int .u8 0, .int .u8 0, .int .u8 0, .int .u8 0, .int .u8 0, .int .u8 0] 44) = wA at hkA hbA hA
  have hbA : Blk wA w.heap.size 44 (digC dig0) := by rw [← dig0_cells] at hbA; exact hbA
  have c6 : wA.cell? ⟨b, 2406, none⟩ = some (.map (some bm)) := hA.blk.tail 1
  have c7 : wA.cell? ⟨b, 2407, none⟩ = some (.int .i64 budget) := hA.blk.tail 2
  have c8 : wA.cell? ⟨b, 2408, none⟩ = some (.int .i64 total) := hA.blk.tail 3
  have hlen := hA.map
  have HBA := Lib.hid hbA
  have HKA := Lib.hid hkA
  have HH := Lib.hid hA
  have HLL := Lib.hid hL
  clear h1 hkA hbA hA hL
  have hml : ∀ w', (∃ x, w' = wA.drewN x) → ∀ ty, (Builtin.len_ #[95] ty #[.map (some bm)]).run Try.prog w' = .ok (.int .i64 (I.length : Nat)) w' := fun w' ⟨x, hx⟩ ty => by
    subst hx
    exact (hlen.drewN x).len ty
  have HML := Lib.hid hml
  clear hml hlen
  have HS0 := Lib.hid (And.intro (show (Try.prog.info? 44).map (·.size) = some (digC dig0).toArray.size by rw [List.size_toArray, digC_length]; exact dig_size) (all_oneCell_toArray (digC_one dig0)))
  by_cases hle : total ≤ budget
  · by_cases hl64 : I.length < 64
    · rw [if_pos ⟨hle, hl64⟩] at hV
      have HN := Lib.hid hV
      have hl64' : (I.length : Int) < 64 := by omega
      clear hV hl64
      go_enter Try.func19, Try.ntmps19
      go_wp2_with fail
      refine wp_region_quiet_lit (by kernel_rfl) (by kernel_rfl) ?_
      repeat (go_big_quiet_step (fail))
      refine wpQuiet_maplen (by rfl) (.tmp 21) 95 rfl bm I.length (by rfl) HML.out ?_
      simp only [Act.put, List.setIfInBounds_toArray, List.set_cons_succ, List.set_cons_zero]
      repeat (go_big_quiet_step (fail))
      refine wpQuiet_nil ?_
      intro _ hw'
      obtain ⟨nq, hw''⟩ := hw'
      subst hw''
      have hkq := HKA.out.drewN nq
      have hbq := HBA.out.drewN nq
      have hRq : RkW (wA.drewN nq) b P fv bm budget total pinned M I F := HH.out.keep0 ((Keep.refl [] wA).drewN nq)
      generalize wA.drewN nq = wq at hkq hbq hRq
      go_wp2_with (first
        | (refine wpList_store_mid rfl 44 (.tmp 2) (.tmp 26) rfl w.heap.size 0 (digC dig0).toArray (by rfl) (by first | rfl | kernel_rfl) (hbq.there 0 _ (by simp)) HS0.out.1 HS0.out.2 ?_)
        | fail)
      have hwt : wq.there w.heap.size 0 (digC dig0).length := hbq.there 0 _ (by simp [digC_length])
      have hr := World.rangeAt_setCells_same wq w.heap.size 0 (digC dig0) hwt
      have hload := run_loadVar_mid (P := Try.prog) (wq.setCells w.heap.size 0 (digC dig0)) w.heap.size 0 44 (digC dig0) _ hr Try.underlying44 rfl (by rw [digC_length]; exact dig_size)
      refine bodyPost_ret (v := .tuple #[.agg (digC dig0).toArray, .bool false]) (by simp [results, Try.results19, asAddr, Result.andThen, hload]) rfl ⟨?_, ?_⟩
      · rw [HN.out]; rfl
      · exact Keep.setCells _ (by omega) _ _ _ hkq
    · rw [if_neg (by omega)] at hV
      have hl64' : ¬ (I.length : Int) < 64 := by omega
      go_enter Try.func19, Try.ntmps19
      go_wp2_with fail
      refine wp_region_quiet_lit (by kernel_rfl) (by kernel_rfl) ?_
      repeat (go_big_quiet_step (fail))
      refine wpQuiet_maplen (by rfl) (.tmp 21) 95 rfl bm I.length (by rfl) HML.out ?_
      simp only [Act.put, List.setIfInBounds_toArray, List.set_cons_succ, List.set_cons_zero]
      repeat (go_big_quiet_step (fail))
      refine wpQuiet_nil ?_
      intro _ hw'
      obtain ⟨nq, hw''⟩ := hw'
      subst hw''
      have hkq := HKA.out.drewN nq
      have hbq := HBA.out.drewN nq
      have hRq : RkW (wA.drewN nq) b P fv bm budget total pinned M I F := HH.out.keep0 ((Keep.refl [] wA).drewN nq)
      generalize wA.drewN nq = wq at hkq hbq hRq
      obtain ⟨x0, hx0⟩ : ∃ x, (0 :: I)[I.length]? = some x := ⟨_, List.getElem?_eq_getElem (by simp)⟩
      obtain ⟨p0, hp0⟩ : ∃ p, P[0]? = some p := ⟨_, List.getElem?_eq_getElem (by have := hRq.ring.len; omega)⟩
      have hnx0 : p0.next = x0 := by
        have h1 : (0 :: (I ++ [0]))[I.length]? = some x0 := by
          rw [← hx0, ← List.cons_append, List.getElem?_append_left (by simp)]
        have h2 : (0 :: (I ++ [0]))[I.length + 1]? = some 0 := by simp
        have := (hRq.ring.seg.step _ _ _ h1 h2).2
        unfold nxtF at this
        rwa [getD_get hp0] at this
      have cn := hRq.blk.cell hp0 35 (by omega)
      rw [Place.at35, hnx0, Nat.zero_mul, Nat.zero_add] at cn
      clear hnx0 hp0
      have HRQ := Lib.hid hRq
      have HBQ := Lib.hid hbq
      have HKQ := Lib.hid hkq
      clear hRq hbq hkq c6 c7 c8
      go_wp2_with fail
      go_loopg [4] I.length (fun g s4 wr => ∃ (m i : Nat), s4 = .int .i64 i ∧ g = m ∧ m ≤ I.length ∧ wr = wq ∧ Hid ((0 :: I)[m]? = some i) ∧ Hid (res = (L.take m).reverse.find? zeroPins))
      case atStart =>
        refine ⟨I.length, x0, rfl, rfl, Nat.le_refl _, rfl, Lib.hid hx0, ?_⟩
        refine Lib.hid ?_
        rw [hV, List.take_of_length_le]
        rw [HLL.out, List.length_map]
        exact Nat.le_refl _
      case round =>
        obtain ⟨m, i, rfl, hgm, hm, rfl, HI, HF⟩ := hrel
        clear cn hx0 hV
        cases m with
        | zero =>
          have hi : i = 0 := by have := HI.out; simp at this; exact this.symm
          have HN : Hid (res = none) := by rw [HF.out]; rfl
          subst hi
          go_wp2_with (first
            | (refine wpList_store_mid rfl 44 (.tmp 2) (.tmp 59) rfl w.heap.size 0 (digC dig0).toArray (by rfl) (by first | rfl | kernel_rfl) (HBQ.out.there 0 _ (by simp)) HS0.out.1 HS0.out.2 ?_)
            | fail)
          have hbq := HBQ.out
          have hwt : wr.there w.heap.size 0 (digC dig0).length := hbq.there 0 _ (by simp [digC_length])
          have hr := World.rangeAt_setCells_same wr w.heap.size 0 (digC dig0) hwt
          have hload := run_loadVar_mid (P := Try.prog) (wr.setCells w.heap.size 0 (digC dig0)) w.heap.size 0 44 (digC dig0) _ hr Try.underlying44 rfl (by rw [digC_length]; exact dig_size)
          refine bodyPost_ret (v := .tuple #[.agg (digC dig0).toArray, .bool false]) (by simp [results, Try.results19, asAddr, Result.andThen, hload]) rfl ⟨?_, ?_⟩
          · rw [HN.out]; rfl
          · exact Keep.setCells _ (by omega) _ _ _ HKQ.out
        | succ m =>
          have him : I[m]? = some i := by have := HI.out; simpa using this
          have hii := HRQ.out.ring.ib (List.mem_of_getElem? him)
          have hi0 : (0 : Int) ≤ (i : Int) := by omega
          have hi1 : (i : Int) < 65 := by omega
          have hin := int_ne' (show (i : Int) ≠ 0 by omega)
          obtain ⟨p, hp⟩ : ∃ p, P[i]? = some p := ⟨_, List.getElem?_eq_getElem (by have := HRQ.out.ring.len; omega)⟩
          have hpj : jarF P i = p.jar := by unfold jarF; rw [getD_get hp]
          have hLm : L[m]? = some p.jar := by rw [HLL.out, List.getElem?_map, him, ← hpj]; rfl
          have hF := HF.out
          rw [take_rev hLm] at hF
          have c34 := HRQ.out.blk.cell hp 34 (by omega)
          rw [Place.at34] at c34
          by_cases hz : p.jar.pins = 0
          · have HN : Hid (res = some p.jar) := Lib.hid (by rw [hF, if_pos (by simp [zeroPins, hz])])
            have hR1 := HRQ.out.blk.range hp
            have hR2 : Hid (wr.rangeAt b (i * 37) (digC p.jar.dig)) := fun j v hv => by
              refine hR1 j v ?_
              have hj := (List.getElem?_eq_some_iff.1 hv).1
              unfold Place.cells Jar.cells
              rw [List.append_assoc, List.getElem?_append_left hj]
              exact hv
            rw [hz] at c34
            have HL := Lib.hid (show (Try.prog.info? 44).map (·.size) = some (digC p.jar.dig).length by rw [digC_length]; exact dig_size)
            have HL2 := Lib.hid (show (Try.prog.info? 44).map (·.size) = some (digC p.jar.dig).toArray.size by rw [List.size_toArray, digC_length]; exact dig_size)
            have H1 := Lib.hid (all_oneCell_toArray (digC_one p.jar.dig))
            have HPL := Lib.hid (digC_length p.jar.dig)
            clear hR1 hF hp hpj hLm hz him hii
            obtain ⟨dd, hdd⟩ : ∃ dd, dd = p.jar.dig := ⟨_, rfl⟩
            rw [← hdd] at hR2 HL HL2 H1 HPL
            have HDD := Lib.hid hdd
            clear hdd
            go_wp2_with (first
              | (refine wpList_load_mid rfl 44 (.tmp 57) rfl b (i * 37) (by rfl) (digC dd) _ hR2.out Try.underlying44 rfl HL.out ?_)
              | (refine wpList_store_mid rfl 44 (.tmp 2) (.tmp 58) rfl w.heap.size 0 (digC dd).toArray (by rfl) (by rfl) (HBQ.out.there 0 _ (by simp [digC_length])) HL2.out H1.out ?_)
              | fail)
            try simp only [Act.put, List.setIfInBounds_toArray, List.set_cons_succ, List.set_cons_zero]
            try go_wp2_with fail
            have hbq := HBQ.out
            have hwt : wr.there w.heap.size 0 (digC dd).length := hbq.there 0 _ (by simp [digC_length])
            have hr := World.rangeAt_setCells_same wr w.heap.size 0 (digC dd) hwt
            have hload := run_loadVar_mid (P := Try.prog) (wr.setCells w.heap.size 0 (digC dd)) w.heap.size 0 44 (digC dd) _ hr Try.underlying44 rfl (by rw [digC_length]; exact dig_size)
            refine bodyPost_ret (v := .tuple #[.agg (digC dd).toArray, .bool true]) (by simp [results, Try.results19, asAddr, Result.andThen, hload]) rfl ⟨?_, ?_⟩
            · rw [HN.out, HDD.out]; rfl
            · exact Keep.setCells _ (by omega) _ _ _ HKQ.out
          · have HN : Hid (res = (L.take m).reverse.find? zeroPins) := Lib.hid (by rw [hF, if_neg (by simp [zeroPins, hz])])
            obtain ⟨z1, z2⟩ := int_ne' hz
            obtain ⟨i', hi'⟩ : ∃ x, (0 :: I)[m]? = some x := ⟨_, List.getElem?_eq_getElem (by simp; omega)⟩
            have hnx : p.next = i' := by
              have h1 : (0 :: (I ++ [0]))[m]? = some i' := by
                rw [← hi', ← List.cons_append, List.getElem?_append_left (by simp; omega)]
              have h2 : (0 :: (I ++ [0]))[m + 1]? = some i := by
                rw [List.getElem?_cons_succ, List.getElem?_append_left (by omega), him]
              have := (HRQ.out.ring.seg.step _ _ _ h1 h2).2
              unfold nxtF at this
              rwa [getD_get hp] at this
            have c35 := HRQ.out.blk.cell hp 35 (by omega)
            rw [Place.at35, hnx] at c35
            have HI' := Lib.hid hi'
            clear hF hp hpj hLm him hii hnx hi' HI
            generalize p.jar.pins = pn at c34 hz z1 z2
            go_wp2_with fail
            go_roundg m
            case measure => omega
            case rel => exact ⟨m, i', rfl, rfl, by omega, rfl, HI', HN⟩
  · rw [if_neg (by omega)] at hV
    have hle' : decide (total ≤ budget) = false := by simp; omega
    clear hle
    go_enter Try.func19, Try.ntmps19
    go_wp2_with fail
    refine wp_region_quiet_lit (by kernel_rfl) (by kernel_rfl) ?_
    repeat (go_big_quiet_step (fail))
    refine wpQuiet_nil ?_
    intro _ hw'
    obtain ⟨nq, hw''⟩ := hw'
    subst hw''
    have hkq := HKA.out.drewN nq
    have hbq := HBA.out.drewN nq
    have hRq : RkW (wA.drewN nq) b P fv bm budget total pinned M I F := HH.out.keep0 ((Keep.refl [] wA).drewN nq)
    generalize wA.drewN nq = wq at hkq hbq hRq
    obtain ⟨x0, hx0⟩ : ∃ x, (0 :: I)[I.length]? = some x := ⟨_, List.getElem?_eq_getElem (by simp)⟩
    obtain ⟨p0, hp0⟩ : ∃ p, P[0]? = some p := ⟨_, List.getElem?_eq_getElem (by have := hRq.ring.len; omega)⟩
    have hnx0 : p0.next = x0 := by
      have h1 : (0 :: (I ++ [0]))[I.length]? = some x0 := by
        rw [← hx0, ← List.cons_append, List.getElem?_append_left (by simp)]
      have h2 : (0 :: (I ++ [0]))[I.length + 1]? = some 0 := by simp
      have := (hRq.ring.seg.step _ _ _ h1 h2).2
      unfold nxtF at this
      rwa [getD_get hp0] at this
    have cn := hRq.blk.cell hp0 35 (by omega)
    rw [Place.at35, hnx0, Nat.zero_mul, Nat.zero_add] at cn
    clear hnx0 hp0
    have HRQ := Lib.hid hRq
    have HBQ := Lib.hid hbq
    have HKQ := Lib.hid hkq
    clear hRq hbq hkq c6 c7 c8
    go_wp2_with fail
    go_loopg [4] I.length (fun g s4 wr => ∃ (m i : Nat), s4 = .int .i64 i ∧ g = m ∧ m ≤ I.length ∧ wr = wq ∧ Hid ((0 :: I)[m]? = some i) ∧ Hid (res = (L.take m).reverse.find? zeroPins))
    case atStart =>
      refine ⟨I.length, x0, rfl, rfl, Nat.le_refl _, rfl, Lib.hid hx0, ?_⟩
      refine Lib.hid ?_
      rw [hV, List.take_of_length_le]
      rw [HLL.out, List.length_map]
      exact Nat.le_refl _
    case round =>
      obtain ⟨m, i, rfl, hgm, hm, rfl, HI, HF⟩ := hrel
      clear cn hx0 hV
      cases m with
      | zero =>
        have hi : i = 0 := by have := HI.out; simp at this; exact this.symm
        have HN : Hid (res = none) := by rw [HF.out]; rfl
        subst hi
        go_wp2_with (first
          | (refine wpList_store_mid rfl 44 (.tmp 2) (.tmp 59) rfl w.heap.size 0 (digC dig0).toArray (by rfl) (by first | rfl | kernel_rfl) (HBQ.out.there 0 _ (by simp)) HS0.out.1 HS0.out.2 ?_)
          | fail)
        have hbq := HBQ.out
        have hwt : wr.there w.heap.size 0 (digC dig0).length := hbq.there 0 _ (by simp [digC_length])
        have hr := World.rangeAt_setCells_same wr w.heap.size 0 (digC dig0) hwt
        have hload := run_loadVar_mid (P := Try.prog) (wr.setCells w.heap.size 0 (digC dig0)) w.heap.size 0 44 (digC dig0) _ hr Try.underlying44 rfl (by rw [digC_length]; exact dig_size)
        refine bodyPost_ret (v := .tuple #[.agg (digC dig0).toArray, .bool false]) (by simp [results, Try.results19, asAddr, Result.andThen, hload]) rfl ⟨?_, ?_⟩
        · rw [HN.out]; rfl
        · exact Keep.setCells _ (by omega) _ _ _ HKQ.out
      | succ m =>
        have him : I[m]? = some i := by have := HI.out; simpa using this
        have hii := HRQ.out.ring.ib (List.mem_of_getElem? him)
        have hi0 : (0 : Int) ≤ (i : Int) := by omega
        have hi1 : (i : Int) < 65 := by omega
        have hin := int_ne' (show (i : Int) ≠ 0 by omega)
        obtain ⟨p, hp⟩ : ∃ p, P[i]? = some p := ⟨_, List.getElem?_eq_getElem (by have := HRQ.out.ring.len; omega)⟩
        have hpj : jarF P i = p.jar := by unfold jarF; rw [getD_get hp]
        have hLm : L[m]? = some p.jar := by rw [HLL.out, List.getElem?_map, him, ← hpj]; rfl
        have hF := HF.out
        rw [take_rev hLm] at hF
        have c34 := HRQ.out.blk.cell hp 34 (by omega)
        rw [Place.at34] at c34
        by_cases hz : p.jar.pins = 0
        · have HN : Hid (res = some p.jar) := Lib.hid (by rw [hF, if_pos (by simp [zeroPins, hz])])
          have hR1 := HRQ.out.blk.range hp
          have hR2 : Hid (wr.rangeAt b (i * 37) (digC p.jar.dig)) := fun j v hv => by
            refine hR1 j v ?_
            have hj := (List.getElem?_eq_some_iff.1 hv).1
            unfold Place.cells Jar.cells
            rw [List.append_assoc, List.getElem?_append_left hj]
            exact hv
          rw [hz] at c34
          have HL := Lib.hid (show (Try.prog.info? 44).map (·.size) = some (digC p.jar.dig).length by rw [digC_length]; exact dig_size)
          have HL2 := Lib.hid (show (Try.prog.info? 44).map (·.size) = some (digC p.jar.dig).toArray.size by rw [List.size_toArray, digC_length]; exact dig_size)
          have H1 := Lib.hid (all_oneCell_toArray (digC_one p.jar.dig))
          have HPL := Lib.hid (digC_length p.jar.dig)
          clear hR1 hF hp hpj hLm hz him hii
          obtain ⟨dd, hdd⟩ : ∃ dd, dd = p.jar.dig := ⟨_, rfl⟩
          rw [← hdd] at hR2 HL HL2 H1 HPL
          have HDD := Lib.hid hdd
          clear hdd
          go_wp2_with (first
            | (refine wpList_load_mid rfl 44 (.tmp 57) rfl b (i * 37) (by rfl) (digC dd) _ hR2.out Try.underlying44 rfl HL.out ?_)
            | (refine wpList_store_mid rfl 44 (.tmp 2) (.tmp 58) rfl w.heap.size 0 (digC dd).toArray (by rfl) (by rfl) (HBQ.out.there 0 _ (by simp [digC_length])) HL2.out H1.out ?_)
            | fail)
          try simp only [Act.put, List.setIfInBounds_toArray, List.set_cons_succ, List.set_cons_zero]
          try go_wp2_with fail
          have hbq := HBQ.out
          have hwt : wr.there w.heap.size 0 (digC dd).length := hbq.there 0 _ (by simp [digC_length])
          have hr := World.rangeAt_setCells_same wr w.heap.size 0 (digC dd) hwt
          have hload := run_loadVar_mid (P := Try.prog) (wr.setCells w.heap.size 0 (digC dd)) w.heap.size 0 44 (digC dd) _ hr Try.underlying44 rfl (by rw [digC_length]; exact dig_size)
          refine bodyPost_ret (v := .tuple #[.agg (digC dd).toArray, .bool true]) (by simp [results, Try.results19, asAddr, Result.andThen, hload]) rfl ⟨?_, ?_⟩
          · rw [HN.out, HDD.out]; rfl
          · exact Keep.setCells _ (by omega) _ _ _ HKQ.out
        · have HN : Hid (res = (L.take m).reverse.find? zeroPins) := Lib.hid (by rw [hF, if_neg (by simp [zeroPins, hz])])
          obtain ⟨z1, z2⟩ := int_ne' hz
          obtain ⟨i', hi'⟩ : ∃ x, (0 :: I)[m]? = some x := ⟨_, List.getElem?_eq_getElem (by simp; omega)⟩
          have hnx : p.next = i' := by
            have h1 : (0 :: (I ++ [0]))[m]? = some i' := by
              rw [← hi', ← List.cons_append, List.getElem?_append_left (by simp; omega)]
            have h2 : (0 :: (I ++ [0]))[m + 1]? = some i := by
              rw [List.getElem?_cons_succ, List.getElem?_append_left (by omega), him]
            have := (HRQ.out.ring.seg.step _ _ _ h1 h2).2
            unfold nxtF at this
            rwa [getD_get hp] at this
          have c35 := HRQ.out.blk.cell hp 35 (by omega)
          rw [Place.at35, hnx] at c35
          have HI' := Lib.hid hi'
          clear hF hp hpj hLm him hii hnx hi' HI
          generalize p.jar.pins = pn at c34 hz z1 z2
          go_wp2_with fail
          go_roundg m
          case measure => omega
          case rel => exact ⟨m, i', rfl, rfl, by omega, rfl, HI', HN⟩
end Go.Proofs.Ytbfnpoknamajnaa
