/- The statement RackRecent: its function answers true for every input. No conditions. -/
import Derived.Test.YtbfnpoknamajnaaRkQ
import Derived.Deep.LoopGhost
namespace Go.Proofs.Ytbfnpoknamajnaa
open Go.RowKit Go.Maps

def intZ (n : Int) : List Value := [.int .i64 n]
theorem intZ_length (n : Int) : (intZ n).length = 1 := rfl
theorem intZ_cells : Try.prog.cellsOf 3 = 1 := by kernel_rfl
theorem read_intZ {H : Type} {enc : TypeId × Value → H} {w : World} {base : Nat} {spare : Nat → Bool} {held : Bool} (m : Nat) (cs : List Value) (x : DataW H × List MemPlace) (h : DataW.trod enc Try.prog w base spare held m 3 cs = some x) : ∃ a, cs = intZ a ∧ True := by
  obtain ⟨n, hn, _⟩ := DataW.trod_int Try.underlying3 h
  exact ⟨n, hn, trivial⟩
def arr40 (A : List Nat) : List Value := A.map fun (n : Nat) => Value.int .i64 (n : Int)
theorem zeros_built : Try.prog.built 47 [] = some (arr40 (List.replicate 40 0)).toArray := by kernel_rfl
theorem wpList_b0 {ops : Array Oper} {rest : List Oper} {o : Oper} {a : Act} {w : World} {Q : Exit → Act → World → Prop} (hg : o.guard = none) {T : TypeId} {cs : List Value} (HB : Hid (Try.prog.built T [] = some cs.toArray))
    (ho : o.op = .build T #[]) (h : wpList Try.prog ops Q rest (a.put o.dst (.agg cs.toArray)) w) : wpList Try.prog ops Q (o :: rest) a w :=
  wpList_buildTo hg _ _ ho o.dst rfl cs.toArray (by
    have e : ((#[] : Array (Nat × Operand)).map fun (i, x) => (i, a.eval x)).toList = [] := by simp
    rw [e]
    exact HB.out) h
theorem arr40_get {A : List Nat} {k : Nat} (h : k < A.length) : (arr40 A)[k]? = some (.int .i64 ((A.getD k 0 : Nat) : Int)) := by
  unfold arr40
  rw [List.getElem?_map, List.getElem?_eq_getElem h]
  simp [List.getD, h]
theorem arr40_set (A : List Nat) (k n : Nat) : (arr40 A).set k (.int .i64 (n : Int)) = arr40 (A.set k n) := by
  unfold arr40
  rw [List.map_set]
theorem arr40_one (A : List Nat) : ∀ u ∈ arr40 A, u.oneCell' = true := by
  intro u hu
  obtain ⟨b, _, rfl⟩ := List.mem_map.1 hu
  rfl
theorem dg_built (i : Nat) (h : i < 40) : Try.prog.built 44 [(0, .int .u8 (i : Int))] = some (digC (dg i)).toArray := by
  have := digB_built (UInt8.ofNat i)
  rw [UInt8.toNat_ofNat', show i % 2 ^ 8 = i by omega] at this
  exact this
theorem jg_built (i : Nat) : Try.prog.built 46 [(0, .agg (digC (dg i)).toArray), (2, .int .i64 (1 + (i : Int)))] = some (jg i).cells.toArray := jarB_built (UInt8.ofNat i) (1 + (i : Int))

set_option maxRecDepth 100000 in
set_option maxHeartbeats 4000000 in
theorem rackRecent_walk (v : Value) (order : List Int) (w : World) (hv : Sl intZ 1 w v order) :
    Calls Try.prog 4 #[v] w fun e w' => e = .returned (.bool true) ∧ Below w.heap.size w w' := by
  obtain ⟨va, vcap, rfl, hvl⟩ := hv.shape
  have hvl' : order.length ≤ 9223372036854775807 := hvl
  have HDL := Lib.hid (fun d : Dig => (show (Try.prog.info? 44).map (·.size) = some (digC d).length by rw [digC_length]; exact dig_size))
  have HZ := Lib.hid zeros_built
  have H40 := Lib.hid (show (Try.prog.info? 47).map (·.size) = some (arr40 (List.replicate 40 0)).length by unfold arr40; rw [List.length_map, List.length_replicate]; kernel_rfl)
  have HV := Lib.hid hv
  clear hv hvl
  go_enter Try.func4, Try.ntmps4
  go_wp2_with fail
  refine (rack_awake _).mono ?_
  rintro e w1 ⟨rfl, hk1⟩
  go_wp2_with fail
  refine (rkx_New w [] 0 w1 hk1 (by simp) (by omega) (by omega)).mono ?_
  rintro e w2 ⟨b, rfl, hr2, hk2⟩
  have R := Lib.hid hr2
  clear hk1 hk2 hr2
  go_wp2_with fail
  go_loopg [5] 40 (fun g s5 wr => ∃ (k : Nat), s5 = .int .i64 k ∧ k ≤ 40 ∧ g = 40 - k ∧ Hid (Rkx w [] wr b 0 ((List.range k).reverse.map jg)))
  case atStart => exact ⟨0, rfl, by omega, rfl, R⟩
  case round =>
    obtain ⟨k, rfl, hk, hgk, R⟩ := hrel
    by_cases hlt : k < 40
    · have hlt' : (k : Int) < 40 := by omega
      have HD := Lib.hid (dg_built k hlt)
      have HJ := Lib.hid (jg_built k)
      have hw8 : IntKind.u8.wrap (k : Int) = (k : Int) := by simp [IntKind.wrap, IntKind.signed, IntKind.bits] <;> omega
      have hw1 := IntWalk.i64_in (1 + (k : Int)) (by omega)
      have hkw := IntWalk.i64_in ((k : Int) + 1) (by omega)
      obtain ⟨p1, p2⟩ := put_jg (D := (List.range k).reverse) (fun x hx => by simp at hx; omega) hlt (by simp) (by simp; omega)
      have HP := Lib.hid (And.intro p1 p2)
      clear p1 p2
      go_wp2_with (first
        | (refine wpList_b1 rfl HD _ rfl (by rfl) ?_)
        | (refine wpList_b2 rfl HJ _ _ rfl (by rfl) (by rfl) ?_)
        | fail)
      try simp only [Act.put, List.setIfInBounds_toArray, List.set_cons_succ, List.set_cons_zero]
      try go_wp2_with fail
      have hc := rkx_Put R.out (jg k)
      rw [HP.out.1, HP.out.2] at hc
      refine hc.mono ?_
      rintro e w3 ⟨rfl, hr, hs⟩
      have R := Lib.hid hr
      clear hr hs hc
      go_wp2_with fail
      go_roundg (40 - (k + 1))
      case measure => omega
      case rel =>
        refine ⟨k + 1, by go_num, by omega, rfl, ?_⟩
        rw [List.range_succ, List.reverse_append]
        exact R
    · have hke : k = 40 := by omega
      subst hke
      go_upto_region 12 with (first
        | (refine wpList_b0 rfl HZ rfl ?_)
        | (refine wpList_store_new rfl 47 (.tmp 6) (.tmp 42) rfl _ (arr40 (List.replicate 40 0)) (by rfl) (by rfl) H40.out (by unfold arr40; rw [List.length_map, List.length_replicate]; rfl) (arr40_one _) ?_)
        | fail)
      try simp only [Act.put, List.setIfInBounds_toArray, List.set_cons_succ, List.set_cons_zero]
      have hl := R.out.local (.cells (arr40 (List.replicate 40 0)).toArray 47)
      have hb := Blk.newA wr (arr40 (List.replicate 40 0)).toArray 47
      rw [List.toList_toArray] at hb
      have hlb := R.out.below.size
      generalize wr.alloc (.cells (arr40 (List.replicate 40 0)).toArray 47) = w4 at hl hb
      generalize wr.heap.size = lb at hl hb hlb
      have R := Lib.hid hl
      have B := Lib.hid hb
      have HA0 := Lib.hid ages0
      clear hl hb
      go_wp2_with fail
      go_loopg [7] order.length (fun g s7 wr => ∃ (i : Nat) (A D : List Nat), s7 = .int .i64 i ∧ i ≤ order.length ∧ i ≤ 300 ∧ g = order.length - i ∧ Hid (Rkx w [lb] wr b 0 (D.map jg)) ∧ Hid (Blk wr lb 47 (arr40 A)) ∧ Hid (Ages A D i))
      case atStart => exact ⟨0, _, _, rfl, by omega, by omega, by omega, R, B, HA0⟩
      case round =>
        obtain ⟨i, A, D, rfl, hi, hi3, hgi, R, B, HA⟩ := hrel
        clear HA0
        by_cases hlt : i < order.length
        · by_cases h300 : i < 300
          · have hx : order[i]? = some order[i] := List.getElem?_eq_getElem hlt
            have hsl := HV.out.below intZ_length R.out.below (Nat.le_refl _)
            obtain ⟨ba, off, cap', hve, _, _, hcell⟩ := hsl.cell hx
            obtain ⟨rfl, _, rfl⟩ : va = some ⟨ba, off, none⟩ ∧ True ∧ vcap = cap' := by simpa using hve
            generalize order[i] = x at hx hcell
            have cx := hcell 0 (by simp [intZ])
            simp only [intZ, List.getElem?_cons_zero, Nat.mul_one, Nat.add_zero] at cx
            obtain ⟨k, hk, hke⟩ := u64_mod x 40 (by omega)
            have hke : (IntKind.u64.wrap x).tmod 40 = (k : Int) := hke
            have HD := Lib.hid (dg_built k hk)
            have hw8 : IntKind.u8.wrap (k : Int) = (k : Int) := by simp [IntKind.wrap, IntKind.signed, IntKind.bits] <;> omega
            have hw1 := IntWalk.i64_in (k : Int) (by omega)
            have hiw := IntWalk.i64_in ((i : Int) + 1) (by omega)
            have hk0 : (0 : Int) ≤ (k : Int) := by omega
            have hk1 : (k : Int) < 40 := by omega
            have hi0 : (0 : Int) ≤ (i : Int) := by omega
            have hi1 : (i : Int) < (order.length : Int) := by omega
            have hi2 : (i : Int) < 300 := by omega
            obtain ⟨p1, p2⟩ := touch_jg HA.out.lt (HA.out.all k hk)
            have HP := Lib.hid (And.intro p1 p2)
            clear p1 p2 hcell hve hsl hx
            go_wp2_with (first
              | (refine wpList_b1 rfl HD _ rfl (by rfl) ?_)
              | fail)
            try simp only [Act.put, List.setIfInBounds_toArray, List.set_cons_succ, List.set_cons_zero]
            try go_wp2_with fail
            have hc := rkx_Touch R.out (dg k)
            rw [HP.out.1, HP.out.2] at hc
            refine hc.mono ?_
            rintro e w5 ⟨rfl, hr, hs⟩
            have B5 := hs.blk B.out (by simp)
            have R := Lib.hid hr
            have cl := B5.get (arr40_get (A := A) (k := k) (by have := HA.out.len; omega))
            have fl := B5.frozen
            have B := Lib.hid (B5.set k (.int .i64 ((i + 1 : Nat) : Int)))
            rw [arr40_set] at B
            have R := Lib.hid (R.out.setCell ⟨lb, k, none⟩ (.int .i64 ((i + 1 : Nat) : Int)) (by simp) hlb)
            rw [show ((i + 1 : Nat) : Int) = (i : Int) + 1 by omega] at B R
            have HA := Lib.hid (HA.out.touch hk)
            clear hr hs hc B5
            go_wp2_with fail
            go_roundg (order.length - (i + 1))
            case measure => omega
            case rel => exact ⟨i + 1, _, _, by go_num, by omega, by omega, rfl, R, B, HA⟩
          · have hi2 : ¬ (i : Int) < 300 := by omega
            have hi1 : (i : Int) < (order.length : Int) := by omega
            have hlen := HA.out.length
            have hI0 : Hid (D.Pairwise (fun a b => ageOf A b < ageOf A a) ∧ (∀ x ∈ D, x < 40) ∧ D.Nodup ∧ (∀ x ∈ D, (-1 : Int) < (ageOf A x : Nat))) := Lib.hid ⟨HA.out.srt, HA.out.lt, HA.out.nd, fun x _ => by omega⟩
            have hAl := HA.out.len
            have hAm : ∀ k : Nat, A.getD k 0 ≤ 300 := fun k => by have := HA.out.most k; omega
            have HAM := Lib.hid hAm
            clear hAm HA
            go_wp2_with fail
            go_loopg [9, 10] 40 (fun g s9 s10 wq => ∃ (j : Nat) (was : Int) (E : List Nat), s10 = .int .i64 j ∧ s9 = .int .i64 was ∧ j ≤ 40 ∧ g = 40 - j ∧ E.length = 40 - j ∧ Hid (Rkx w [lb] wq b 0 (E.map jg)) ∧ Hid (Blk wq lb 47 (arr40 A)) ∧ Hid (E.Pairwise (fun a b => ageOf A b < ageOf A a) ∧ (∀ x ∈ E, x < 40) ∧ E.Nodup ∧ (∀ x ∈ E, was < (ageOf A x : Nat))))
            case atStart => exact ⟨0, -1, D, rfl, rfl, by omega, by omega, by omega, R, B, hI0⟩
            case round =>
              obtain ⟨j, was, E, rfl, rfl, hj, hgj, hEl, R, B, HE⟩ := hrel
              clear hI0 hlen
              by_cases hjl : j < 40
              · have hjl' : (j : Int) < 40 := by omega
                rcases List.eq_nil_or_concat E with hE | ⟨E', z, hE⟩
                · rw [hE] at hEl; simp at hEl; omega
                · rw [List.concat_eq_append] at hE
                  subst hE
                  have hz : z < 40 := HE.out.2.1 z (by simp)
                  obtain ⟨p1, p2⟩ := drop_jg HE.out.2.1 HE.out.2.2.1
                  have HP := Lib.hid (And.intro p1 p2)
                  have hE2 : E'.length = 40 - (j + 1) := by simp at hEl; omega
                  clear p1 p2 hEl
                  have hc := rkx_Victim_some R.out (vic_jg (D := E') (z := z)) (d := dg z) rfl
                  have hjw := IntWalk.i64_in ((j : Int) + 1) (by omega)
                  go_wp2_with fail
                  refine hc.mono ?_
                  rintro e w6 ⟨rfl, hr, hs⟩
                  have B := Lib.hid (hs.blk B.out (by simp))
                  have R := Lib.hid hr
                  clear hr hs hc
                  go_upto_region 24 with (first
                    | (refine wpList_store_new rfl 44 (.tmp 11) (.tmp 77) rfl _ (digC (dg z)) (by rfl) (by rfl) (HDL.out _) (by rw [digC_length]; rfl) (digC_one _) ?_)
                    | fail)
                  try simp only [Act.put, List.setIfInBounds_toArray, List.set_cons_succ, List.set_cons_zero]
                  have hl := R.out.local (.cells (digC (dg z)).toArray 44)
                  have hb := Blk.newA w6 (digC (dg z)).toArray 44
                  rw [List.toList_toArray] at hb
                  have hk := (Keep.refl [] w6).alloc (.cells (digC (dg z)).toArray 44)
                  generalize w6.alloc (.cells (digC (dg z)).toArray 44) = w7 at hl hb hk
                  have B := Lib.hid (hk.blk B.out (by simp))
                  generalize w6.heap.size = db at hl hb
                  have R := Lib.hid hl
                  have BD := Lib.hid hb
                  clear hl hb hk
                  go_wp2_with (first
                    | (refine wpList_load_midG (by rfl) 44 (.tmp 11) rfl db 0 (by rfl) (digC (dg z)) _ BD.out.rangeAt Try.underlying44 rfl (HDL.out _) ?_)
                    | fail)
                  try simp only [Act.put, List.setIfInBounds_toArray, List.set_cons_succ, List.set_cons_zero]
                  try go_wp2_with fail
                  have hc := rkx_Drop R.out (dg z)
                  rw [HP.out.1, HP.out.2] at hc
                  refine hc.mono ?_
                  rintro e w8 ⟨rfl, hr, hs⟩
                  have B := Lib.hid (hs.blk B.out (by simp))
                  have hBD := hs.blk BD.out (by simp)
                  have R := Lib.hid (hr.mono (Y := [lb]) (by simp))
                  have cd := hBD.get (k := 0) (v := .int .u8 ((UInt8.ofNat z).toNat : Nat)) rfl
                  rw [UInt8.toNat_ofNat', show z % 2 ^ 8 = z by omega] at cd
                  have ca := B.out.get (arr40_get (A := A) (k := z) (by omega))
                  have ha300 := HAM.out z
                  have hag : ageOf A z = if 0 < A.getD z 0 then A.getD z 0 * 40 + 40 else A.getD z 0 * 40 + z := rfl
                  have hwz := HE.out.2.2.2 z (by simp)
                  have HG : Hid (∀ x ∈ E', ageOf A z < ageOf A x) := fun x hx => (List.pairwise_append.1 HE.out.1).2.2 x hx z (by simp)
                  have HE' : Hid (E'.Pairwise (fun a b => ageOf A b < ageOf A a) ∧ (∀ x ∈ E', x < 40) ∧ E'.Nodup) := Lib.hid ⟨(List.pairwise_append.1 HE.out.1).1, fun x hx => HE.out.2.1 x (by simp [hx]), (List.nodup_append.1 HE.out.2.2.1).1⟩
                  clear hr hs hc BD HE hBD
                  have hz0 : (0 : Int) ≤ (z : Int) := by omega
                  have hz1 : (z : Int) < 40 := by omega
                  have hzw := IntWalk.i64_in (z : Int) (by omega)
                  generalize A.getD z 0 = a at ca hag ha300
                  obtain ⟨ai, hai⟩ : ∃ ai : Int, ai = (a : Int) := ⟨_, rfl⟩
                  rw [← hai] at ca
                  have hai0 : 0 ≤ ai := by omega
                  have hai3 : ai ≤ 300 := by omega
                  have HAI := Lib.hid hai
                  have hw1 := IntWalk.i64_in (ai * 40) (by omega)
                  have hw2 := IntWalk.i64_in (ai * 40 + (z : Int)) (by omega)
                  have hw3 := IntWalk.i64_in (ai * 40 + 40) (by omega)
                  by_cases ha : 0 < a
                  · rw [if_pos ha] at hag
                    have ha1 : decide (ai > 0) = true := by simp; omega
                    have hle : decide (ai * 40 + 40 ≤ was) = false := by simp; omega
                    have HAG := Lib.hid hag
                    clear ha hag hwz hai ha300
                    go_wp2_with fail
                    go_roundg (40 - (j + 1))
                    case measure => omega
                    case rel =>
                      refine ⟨j + 1, ai * 40 + 40, E', by go_num, rfl, by omega, rfl, hE2, R, B, Lib.hid ⟨HE'.out.1, HE'.out.2.1, HE'.out.2.2, fun x hx => ?_⟩⟩
                      have h1 := HG.out x hx
                      have h2 := HAG.out
                      have h3 := HAI.out
                      omega
                  · rw [if_neg ha] at hag
                    have ha1 : decide (ai > 0) = false := by simp; omega
                    have hle : decide (ai * 40 + (z : Int) ≤ was) = false := by simp; omega
                    have HAG := Lib.hid hag
                    clear ha hag hwz hai ha300
                    go_wp2_with fail
                    go_roundg (40 - (j + 1))
                    case measure => omega
                    case rel =>
                      refine ⟨j + 1, ai * 40 + (z : Int), E', by go_num, rfl, by omega, rfl, hE2, R, B, Lib.hid ⟨HE'.out.1, HE'.out.2.1, HE'.out.2.2, fun x hx => ?_⟩⟩
                      have h1 := HG.out x hx
                      have h2 := HAG.out
                      have h3 := HAI.out
                      omega
              · have hje : j = 40 := by omega
                subst hje
                have hE : E = [] := List.eq_nil_of_length_eq_zero (by omega)
                subst hE
                have hc := rkx_Victim_none R.out (show vicL 0 (([] : List Nat).map jg) = none from rfl)
                have hT := Lib.hid (fun w' (h : Rkx w [lb] w' b 0 (([] : List Nat).map jg)) => show Calls Try.prog 22 #[.pointer (some ⟨b, 0, none⟩)] w' fun e w'' => e = .returned (.int .i64 0) ∧ Rkx w [lb] w'' b 0 (([] : List Nat).map jg) ∧ Stay [lb] w' w'' from rkx_Total h)
                have hN := Lib.hid (fun w' (h : Rkx w [lb] w' b 0 (([] : List Nat).map jg)) => show Calls Try.prog 21 #[.pointer (some ⟨b, 0, none⟩)] w' fun e w'' => e = .returned (.int .i64 0) ∧ Rkx w [lb] w'' b 0 (([] : List Nat).map jg) ∧ Stay [lb] w' w'' from rkx_Len h)
                clear HE HAM hEl
                go_wp2_with fail
                refine hc.mono ?_
                rintro e w6 ⟨rfl, hr, hs⟩
                have R := Lib.hid hr
                clear hr hs hc
                go_upto_region 34 with (first
                  | (refine wpList_store_new rfl 44 (.tmp 15) (.tmp 112) rfl _ (digC dig0) (by rfl) (by rfl) (HDL.out _) (by rw [digC_length]; rfl) (digC_one _) ?_)
                  | fail)
                try simp only [Act.put, List.setIfInBounds_toArray, List.set_cons_succ, List.set_cons_zero]
                have hk := (Keep.refl [] w6).alloc (.cells (digC dig0).toArray 44)
                generalize w6.alloc (.cells (digC dig0).toArray 44) = w7 at hk
                have R := Lib.hid (R.out.keep0 hk)
                clear hk
                go_wp2_with fail
                refine (hN.out _ R.out).mono ?_
                rintro e w8 ⟨rfl, hr, hs⟩
                have R := Lib.hid hr
                clear hr hs
                go_wp2_with fail
                refine (hT.out _ R.out).mono ?_
                rintro e w9 ⟨rfl, hr, hs⟩
                have R := Lib.hid hr
                clear hr hs
                go_wp2_with fail
                go_ret
                exact ⟨rfl, R.out.below⟩
        · have hi1 : ¬ (i : Int) < (order.length : Int) := by omega
          have hlen := HA.out.length
          have hI0 : Hid (D.Pairwise (fun a b => ageOf A b < ageOf A a) ∧ (∀ x ∈ D, x < 40) ∧ D.Nodup ∧ (∀ x ∈ D, (-1 : Int) < (ageOf A x : Nat))) := Lib.hid ⟨HA.out.srt, HA.out.lt, HA.out.nd, fun x _ => by omega⟩
          have hAl := HA.out.len
          have hAm : ∀ k : Nat, A.getD k 0 ≤ 300 := fun k => by have := HA.out.most k; omega
          have HAM := Lib.hid hAm
          clear hAm HA
          go_wp2_with fail
          go_loopg [9, 10] 40 (fun g s9 s10 wq => ∃ (j : Nat) (was : Int) (E : List Nat), s10 = .int .i64 j ∧ s9 = .int .i64 was ∧ j ≤ 40 ∧ g = 40 - j ∧ E.length = 40 - j ∧ Hid (Rkx w [lb] wq b 0 (E.map jg)) ∧ Hid (Blk wq lb 47 (arr40 A)) ∧ Hid (E.Pairwise (fun a b => ageOf A b < ageOf A a) ∧ (∀ x ∈ E, x < 40) ∧ E.Nodup ∧ (∀ x ∈ E, was < (ageOf A x : Nat))))
          case atStart => exact ⟨0, -1, D, rfl, rfl, by omega, by omega, by omega, R, B, hI0⟩
          case round =>
            obtain ⟨j, was, E, rfl, rfl, hj, hgj, hEl, R, B, HE⟩ := hrel
            clear hI0 hlen
            by_cases hjl : j < 40
            · have hjl' : (j : Int) < 40 := by omega
              rcases List.eq_nil_or_concat E with hE | ⟨E', z, hE⟩
              · rw [hE] at hEl; simp at hEl; omega
              · rw [List.concat_eq_append] at hE
                subst hE
                have hz : z < 40 := HE.out.2.1 z (by simp)
                obtain ⟨p1, p2⟩ := drop_jg HE.out.2.1 HE.out.2.2.1
                have HP := Lib.hid (And.intro p1 p2)
                have hE2 : E'.length = 40 - (j + 1) := by simp at hEl; omega
                clear p1 p2 hEl
                have hc := rkx_Victim_some R.out (vic_jg (D := E') (z := z)) (d := dg z) rfl
                have hjw := IntWalk.i64_in ((j : Int) + 1) (by omega)
                go_wp2_with fail
                refine hc.mono ?_
                rintro e w6 ⟨rfl, hr, hs⟩
                have B := Lib.hid (hs.blk B.out (by simp))
                have R := Lib.hid hr
                clear hr hs hc
                go_upto_region 24 with (first
                  | (refine wpList_store_new rfl 44 (.tmp 11) (.tmp 77) rfl _ (digC (dg z)) (by rfl) (by rfl) (HDL.out _) (by rw [digC_length]; rfl) (digC_one _) ?_)
                  | fail)
                try simp only [Act.put, List.setIfInBounds_toArray, List.set_cons_succ, List.set_cons_zero]
                have hl := R.out.local (.cells (digC (dg z)).toArray 44)
                have hb := Blk.newA w6 (digC (dg z)).toArray 44
                rw [List.toList_toArray] at hb
                have hk := (Keep.refl [] w6).alloc (.cells (digC (dg z)).toArray 44)
                generalize w6.alloc (.cells (digC (dg z)).toArray 44) = w7 at hl hb hk
                have B := Lib.hid (hk.blk B.out (by simp))
                generalize w6.heap.size = db at hl hb
                have R := Lib.hid hl
                have BD := Lib.hid hb
                clear hl hb hk
                go_wp2_with (first
                  | (refine wpList_load_midG (by rfl) 44 (.tmp 11) rfl db 0 (by rfl) (digC (dg z)) _ BD.out.rangeAt Try.underlying44 rfl (HDL.out _) ?_)
                  | fail)
                try simp only [Act.put, List.setIfInBounds_toArray, List.set_cons_succ, List.set_cons_zero]
                try go_wp2_with fail
                have hc := rkx_Drop R.out (dg z)
                rw [HP.out.1, HP.out.2] at hc
                refine hc.mono ?_
                rintro e w8 ⟨rfl, hr, hs⟩
                have B := Lib.hid (hs.blk B.out (by simp))
                have hBD := hs.blk BD.out (by simp)
                have R := Lib.hid (hr.mono (Y := [lb]) (by simp))
                have cd := hBD.get (k := 0) (v := .int .u8 ((UInt8.ofNat z).toNat : Nat)) rfl
                rw [UInt8.toNat_ofNat', show z % 2 ^ 8 = z by omega] at cd
                have ca := B.out.get (arr40_get (A := A) (k := z) (by omega))
                have ha300 := HAM.out z
                have hag : ageOf A z = if 0 < A.getD z 0 then A.getD z 0 * 40 + 40 else A.getD z 0 * 40 + z := rfl
                have hwz := HE.out.2.2.2 z (by simp)
                have HG : Hid (∀ x ∈ E', ageOf A z < ageOf A x) := fun x hx => (List.pairwise_append.1 HE.out.1).2.2 x hx z (by simp)
                have HE' : Hid (E'.Pairwise (fun a b => ageOf A b < ageOf A a) ∧ (∀ x ∈ E', x < 40) ∧ E'.Nodup) := Lib.hid ⟨(List.pairwise_append.1 HE.out.1).1, fun x hx => HE.out.2.1 x (by simp [hx]), (List.nodup_append.1 HE.out.2.2.1).1⟩
                clear hr hs hc BD HE hBD
                have hz0 : (0 : Int) ≤ (z : Int) := by omega
                have hz1 : (z : Int) < 40 := by omega
                have hzw := IntWalk.i64_in (z : Int) (by omega)
                generalize A.getD z 0 = a at ca hag ha300
                obtain ⟨ai, hai⟩ : ∃ ai : Int, ai = (a : Int) := ⟨_, rfl⟩
                rw [← hai] at ca
                have hai0 : 0 ≤ ai := by omega
                have hai3 : ai ≤ 300 := by omega
                have HAI := Lib.hid hai
                have hw1 := IntWalk.i64_in (ai * 40) (by omega)
                have hw2 := IntWalk.i64_in (ai * 40 + (z : Int)) (by omega)
                have hw3 := IntWalk.i64_in (ai * 40 + 40) (by omega)
                by_cases ha : 0 < a
                · rw [if_pos ha] at hag
                  have ha1 : decide (ai > 0) = true := by simp; omega
                  have hle : decide (ai * 40 + 40 ≤ was) = false := by simp; omega
                  have HAG := Lib.hid hag
                  clear ha hag hwz hai ha300
                  go_wp2_with fail
                  go_roundg (40 - (j + 1))
                  case measure => omega
                  case rel =>
                    refine ⟨j + 1, ai * 40 + 40, E', by go_num, rfl, by omega, rfl, hE2, R, B, Lib.hid ⟨HE'.out.1, HE'.out.2.1, HE'.out.2.2, fun x hx => ?_⟩⟩
                    have h1 := HG.out x hx
                    have h2 := HAG.out
                    have h3 := HAI.out
                    omega
                · rw [if_neg ha] at hag
                  have ha1 : decide (ai > 0) = false := by simp; omega
                  have hle : decide (ai * 40 + (z : Int) ≤ was) = false := by simp; omega
                  have HAG := Lib.hid hag
                  clear ha hag hwz hai ha300
                  go_wp2_with fail
                  go_roundg (40 - (j + 1))
                  case measure => omega
                  case rel =>
                    refine ⟨j + 1, ai * 40 + (z : Int), E', by go_num, rfl, by omega, rfl, hE2, R, B, Lib.hid ⟨HE'.out.1, HE'.out.2.1, HE'.out.2.2, fun x hx => ?_⟩⟩
                    have h1 := HG.out x hx
                    have h2 := HAG.out
                    have h3 := HAI.out
                    omega
            · have hje : j = 40 := by omega
              subst hje
              have hE : E = [] := List.eq_nil_of_length_eq_zero (by omega)
              subst hE
              have hc := rkx_Victim_none R.out (show vicL 0 (([] : List Nat).map jg) = none from rfl)
              have hT := Lib.hid (fun w' (h : Rkx w [lb] w' b 0 (([] : List Nat).map jg)) => show Calls Try.prog 22 #[.pointer (some ⟨b, 0, none⟩)] w' fun e w'' => e = .returned (.int .i64 0) ∧ Rkx w [lb] w'' b 0 (([] : List Nat).map jg) ∧ Stay [lb] w' w'' from rkx_Total h)
              have hN := Lib.hid (fun w' (h : Rkx w [lb] w' b 0 (([] : List Nat).map jg)) => show Calls Try.prog 21 #[.pointer (some ⟨b, 0, none⟩)] w' fun e w'' => e = .returned (.int .i64 0) ∧ Rkx w [lb] w'' b 0 (([] : List Nat).map jg) ∧ Stay [lb] w' w'' from rkx_Len h)
              clear HE HAM hEl
              go_wp2_with fail
              refine hc.mono ?_
              rintro e w6 ⟨rfl, hr, hs⟩
              have R := Lib.hid hr
              clear hr hs hc
              go_upto_region 34 with (first
                | (refine wpList_store_new rfl 44 (.tmp 15) (.tmp 112) rfl _ (digC dig0) (by rfl) (by rfl) (HDL.out _) (by rw [digC_length]; rfl) (digC_one _) ?_)
                | fail)
              try simp only [Act.put, List.setIfInBounds_toArray, List.set_cons_succ, List.set_cons_zero]
              have hk := (Keep.refl [] w6).alloc (.cells (digC dig0).toArray 44)
              generalize w6.alloc (.cells (digC dig0).toArray 44) = w7 at hk
              have R := Lib.hid (R.out.keep0 hk)
              clear hk
              go_wp2_with fail
              refine (hN.out _ R.out).mono ?_
              rintro e w8 ⟨rfl, hr, hs⟩
              have R := Lib.hid hr
              clear hr hs
              go_wp2_with fail
              refine (hT.out _ R.out).mono ?_
              rintro e w9 ⟨rfl, hr, hs⟩
              have R := Lib.hid hr
              clear hr hs
              go_wp2_with fail
              go_ret
              exact ⟨rfl, R.out.below⟩
end Go.Proofs.Ytbfnpoknamajnaa
