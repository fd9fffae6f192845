/- Layer 21: a call as the statement RackFits plays it. No conditions. -/
import Derived.Test.YtbfnpoknamajnaaRkR
import Derived.Deep.LoopGhost
namespace Go.Proofs.Ytbfnpoknamajnaa
open Go.RowKit Go.Maps

/-- the list behind a call -/
def playL (L : List Jar) (x : Act21) : List Jar := if x.kind = 1 then putL L x.j else if x.kind = 2 then touchL L x.j.dig else if x.kind = 3 then pinL L x.j.dig else if x.kind = 4 then unpinL L x.j.dig else dropL L x.j.dig

set_option maxRecDepth 100000 in
set_option maxHeartbeats 2000000 in
theorem law_play {w0 : World} {X : List Nat} {w : World} {b : Nat} {budget : Int} {L : List Jar} (h : Rkx w0 X w b budget L) (x : Act21) :
    Calls Try.prog 48 #[.pointer (some ⟨b, 0, none⟩), .agg x.cells.toArray] w fun e w' => ∃ n, e = .returned (.int .i64 n) ∧ Rkx w0 X w' b budget (playL L x) ∧ Stay X w w' := by
  have hl := h.keep0 ((Keep.refl [] w).alloc (.cells x.cells.toArray 76))
  have hs := Stay.of (X := X) ((Keep.refl [] w).alloc (.cells x.cells.toArray 76))
  have hb : Blk (w.alloc (.cells x.cells.toArray 76)) w.heap.size 76 x.cells := by simpa using Blk.newA w x.cells.toArray 76
  have c0 := hb.get (k := 0) (v := .int .i64 x.kind) rfl
  have hrJ : (w.alloc (.cells x.cells.toArray 76)).rangeAt w.heap.size 1 x.j.cells := fun k v hv => by
    have := hb.rangeAt (k + 1) v (by rw [Act21.cells, List.getElem?_cons_succ]; exact hv)
    rwa [show 0 + (k + 1) = 1 + k by omega] at this
  have hrD : (w.alloc (.cells x.cells.toArray 76)).rangeAt w.heap.size 1 (digC x.j.dig) := fun k v hv => by
    refine hrJ k v ?_
    unfold Jar.cells
    rw [List.getElem?_append_left (List.getElem?_eq_some_iff.1 hv).1]
    exact hv
  have HSJ := Lib.hid (show (Try.prog.info? 46).map (·.size) = some x.j.cells.length by rw [Jar.cells_length]; exact jar_size)
  have HSD := Lib.hid (show (Try.prog.info? 44).map (·.size) = some (digC x.j.dig).length by rw [digC_length]; exact dig_size)
  have hP : playL L x = if x.kind = 1 then putL L x.j else if x.kind = 2 then touchL L x.j.dig else if x.kind = 3 then pinL L x.j.dig else if x.kind = 4 then unpinL L x.j.dig else dropL L x.j.dig := rfl
  generalize playL L x = PL at hP ⊢
  generalize hwA : w.alloc (.cells x.cells.toArray 76) = wA at hl hs hb c0 hrJ hrD
  obtain ⟨kd, hkd⟩ : ∃ k, k = x.kind := ⟨_, rfl⟩
  rw [← hkd] at c0 hP
  have HL := Lib.hid hl
  have HS := Lib.hid hs
  have HRJ := Lib.hid hrJ
  have HRD := Lib.hid hrD
  clear hl hs hrJ hrD hb hkd
  by_cases e1 : kd = 1
  · have q1 : (kd == 1) = true := by simp [e1]
    rw [if_pos e1] at hP
    clear e1
    have HPL := Lib.hid hP
    clear hP
    go_enter Try.func48, Try.ntmps48
    go_wp2_with (first
      | (refine wpList_load_mid rfl 46 (.tmp 10) rfl w.heap.size 1 (by rfl) x.j.cells _ HRJ.out Try.underlying46 rfl HSJ.out ?_)
      | fail)
    try simp only [Act.put, List.setIfInBounds_toArray, List.set_cons_succ, List.set_cons_zero]
    try go_wp2_with fail
    refine (rkx_Put HL.out x.j).mono ?_
    rintro e w1 ⟨rfl, hr, hst⟩
    go_wp2_with fail
    go_ret
    exact ⟨_, rfl, by rw [HPL.out]; exact hr, HS.out.trans hst⟩
  · have q1 : (kd == 1) = false := by simp [e1]
    rw [if_neg e1] at hP
    by_cases e2 : kd = 2
    · have q2 : (kd == 2) = true := by simp [e2]
      rw [if_pos e2] at hP
      clear e1 e2
      have HPL := Lib.hid hP
      clear hP
      go_enter Try.func48, Try.ntmps48
      go_wp2_with (first
        | (refine wpList_load_mid rfl 44 (.tmp 17) rfl w.heap.size 1 (by rfl) (digC x.j.dig) _ HRD.out Try.underlying44 rfl HSD.out ?_)
        | fail)
      try simp only [Act.put, List.setIfInBounds_toArray, List.set_cons_succ, List.set_cons_zero]
      try go_wp2_with fail
      refine (rkx_Touch HL.out x.j.dig).mono ?_
      rintro e w1 ⟨rfl, hr, hst⟩
      go_wp2_with fail
      go_ret
      exact ⟨_, rfl, by rw [HPL.out]; exact hr, HS.out.trans hst⟩
    · have q2 : (kd == 2) = false := by simp [e2]
      rw [if_neg e2] at hP
      by_cases e3 : kd = 3
      · have q3 : (kd == 3) = true := by simp [e3]
        rw [if_pos e3] at hP
        clear e1 e2 e3
        have HPL := Lib.hid hP
        clear hP
        go_enter Try.func48, Try.ntmps48
        go_wp2_with (first
          | (refine wpList_load_mid rfl 44 (.tmp 24) rfl w.heap.size 1 (by rfl) (digC x.j.dig) _ HRD.out Try.underlying44 rfl HSD.out ?_)
          | fail)
        try simp only [Act.put, List.setIfInBounds_toArray, List.set_cons_succ, List.set_cons_zero]
        try go_wp2_with fail
        refine (rkx_Pin HL.out x.j.dig).mono ?_
        rintro e w1 ⟨rfl, hr, hst⟩
        go_wp2_with fail
        go_ret
        exact ⟨_, rfl, by rw [HPL.out]; exact hr, HS.out.trans hst⟩
      · have q3 : (kd == 3) = false := by simp [e3]
        rw [if_neg e3] at hP
        by_cases e4 : kd = 4
        · have q4 : (kd == 4) = true := by simp [e4]
          rw [if_pos e4] at hP
          clear e1 e2 e3 e4
          have HPL := Lib.hid hP
          clear hP
          go_enter Try.func48, Try.ntmps48
          go_wp2_with (first
            | (refine wpList_load_mid rfl 44 (.tmp 31) rfl w.heap.size 1 (by rfl) (digC x.j.dig) _ HRD.out Try.underlying44 rfl HSD.out ?_)
            | fail)
          try simp only [Act.put, List.setIfInBounds_toArray, List.set_cons_succ, List.set_cons_zero]
          try go_wp2_with fail
          refine (rkx_Unpin HL.out x.j.dig).mono ?_
          rintro e w1 ⟨rfl, hr, hst⟩
          go_wp2_with fail
          go_ret
          exact ⟨_, rfl, by rw [HPL.out]; exact hr, HS.out.trans hst⟩
        · have q4 : (kd == 4) = false := by simp [e4]
          rw [if_neg e4] at hP
          clear e1 e2 e3 e4
          have HPL := Lib.hid hP
          clear hP
          go_enter Try.func48, Try.ntmps48
          go_wp2_with (first
            | (refine wpList_load_mid rfl 44 (.tmp 36) rfl w.heap.size 1 (by rfl) (digC x.j.dig) _ HRD.out Try.underlying44 rfl HSD.out ?_)
            | fail)
          try simp only [Act.put, List.setIfInBounds_toArray, List.set_cons_succ, List.set_cons_zero]
          try go_wp2_with fail
          refine (rkx_Drop HL.out x.j.dig).mono ?_
          rintro e w1 ⟨rfl, hr, hst⟩
          go_wp2_with fail
          go_ret
          exact ⟨_, rfl, by rw [HPL.out]; exact hr, HS.out.trans hst⟩
end Go.Proofs.Ytbfnpoknamajnaa
