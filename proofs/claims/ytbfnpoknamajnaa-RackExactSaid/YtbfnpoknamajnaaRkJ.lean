/- Layer 21: Pin, Unpin. No conditions. -/
import Derived.Test.YtbfnpoknamajnaaRkI
namespace Go.Proofs.Ytbfnpoknamajnaa
open Go.RowKit Go.Maps

theorem sum_bound (f : Jar → Int) (m : Int) : ∀ (L : List Jar), (∀ j ∈ L, 0 ≤ f j ∧ f j ≤ m) → 0 ≤ (L.map f).sum ∧ (L.map f).sum ≤ m * L.length
  | [], _ => by simp
  | x :: r, h => by
    have h1 := h x (by simp)
    have h2 := sum_bound f m r (fun j hj => h j (by simp [hj]))
    simp only [List.map_cons, List.sum_cons, List.length_cons, Int.natCast_add]
    rw [Int.mul_add]
    simp only [Int.natCast_one, Int.mul_one]
    omega
theorem used_bound {L : List Jar} (h : ∀ j ∈ L, okJar j) (hl : L.length ≤ 64) : 0 ≤ usedL L ∧ usedL L ≤ 67108864 := by
  have := sum_bound (fun x => if x.pins > 0 then x.size else 0) 1048576 L (fun j hj => by
    obtain ⟨_, h1, h2, _⟩ := h j hj
    split <;> omega)
  unfold usedL
  omega
theorem size_bound {L : List Jar} (h : ∀ j ∈ L, okJar j) (hl : L.length ≤ 64) : 0 ≤ sumL L ∧ sumL L ≤ 67108864 := by
  have := sum_bound (·.size) 1048576 L (fun j hj => by
    obtain ⟨_, h1, h2, _⟩ := h j hj
    exact ⟨h1, h2⟩)
  unfold sumL
  omega
theorem rest_pins : ∀ (L : List Jar) (d : Dig) (n : Int), restL (pinsL L d n) d = restL L d
  | [], d, n => rfl
  | x :: r, d, n => by
    have ih := rest_pins r d n
    unfold restL pinsL at *
    by_cases e : x.dig = d
    · simp [e, ih]
    · simp [e, ih]
theorem digs_pins (L : List Jar) (d : Dig) (n : Int) : (pinsL L d n).map (·.dig) = L.map (·.dig) := by
  unfold pinsL
  rw [List.map_map]
  apply List.map_congr_left
  intro x _
  simp only [Function.comp_apply]
  split <;> rfl
theorem find_pins : ∀ (L : List Jar) (d : Dig) (n : Int) (x : Jar), findL L d = some x → findL (pinsL L d n) d = some { x with pins := n }
  | [], d, n, x, h => by simp [findL] at h
  | y :: r, d, n, x, h => by
    by_cases e : y.dig = d
    · have hx : y = x := by simpa [findL, e] using h
      subst hx
      simp [findL, pinsL, e]
    · have h' : findL r d = some x := by simpa [findL, e] using h
      have ih := find_pins r d n x h'
      unfold findL pinsL at *
      simp [e]
      simpa using ih
theorem sum_pins (L : List Jar) (d : Dig) (n : Int) (x : Jar) (hd : (L.map (·.dig)).Nodup) (h : findL L d = some x) (f : Jar → Int) : ((pinsL L d n).map f).sum = f { x with pins := n } + ((restL L d).map f).sum := by
  have := sum_rest (pinsL L d n) d _ (by rw [digs_pins]; exact hd) (find_pins L d n x h) f
  rw [rest_pins] at this
  exact this
theorem good_pins {L : List Jar} {d : Dig} {n : Int} (h : ∀ j ∈ L, okJar j) (hn : 0 ≤ n ∧ n ≤ 1073741824) : ∀ j ∈ pinsL L d n, okJar j := by
  intro j hj
  unfold pinsL at hj
  obtain ⟨x, hx, rfl⟩ := List.mem_map.1 hj
  have := h x hx
  split
  · exact ⟨this.1, this.2.1, this.2.2.1, hn⟩
  · exact this

def pinE (L : List Jar) (d : Dig) : Int := match findL L d with
  | none => 7
  | some x => if 1073741824 ≤ x.pins then 6 else 0
def pinL (L : List Jar) (d : Dig) : List Jar := match findL L d with
  | none => L
  | some x => if 1073741824 ≤ x.pins then L else pinsL L d (x.pins + 1)
def unpinE (L : List Jar) (d : Dig) : Int := match findL L d with
  | none => 7
  | some x => if x.pins = 0 then 8 else 0
def unpinL (L : List Jar) (d : Dig) : List Jar := match findL L d with
  | none => L
  | some x => if x.pins = 0 then L else pinsL L d (x.pins - 1)

/-- the rack behind a change of a jar's pins -/
theorem RkW.pins {w w1 : World} {b : Nat} {P : List Place} {fv : Value} {bm : Nat} {budget total pinned pinned' : Int} {M : Dig → Nat} {I F : List Nat} {d : Dig} {n : Int} (h : RkW w b P fv bm budget total pinned M I F) (h0 : M d ≠ 0) (hn : 0 ≤ n ∧ n ≤ 1073741824)
    (hb : RkBlk w1 b (P.set (M d) { P.getD (M d) default with jar := { jarF P (M d) with pins := n } }) fv bm budget total pinned') (k : Keep [b] w w1)
    (hu : pinned' = pinned - (if (jarF P (M d)).pins > 0 then (jarF P (M d)).size else 0) + (if n > 0 then (jarF P (M d)).size else 0)) :
    RkW w1 b (P.set (M d) { P.getD (M d) default with jar := { jarF P (M d) with pins := n } }) fv bm budget total pinned' M I F ∧ I.map (jarF (P.set (M d) { P.getD (M d) default with jar := { jarF P (M d) with pins := n } })) = pinsL (I.map (jarF P)) d n := by
  obtain ⟨hr, hl⟩ := h.ring.pins h0 n
  have hf := h.ring.find_yes h0
  have hd := h.ring.digs
  refine ⟨⟨hb, h.map.keep k (by simp; exact h.ne), h.own.keep k (fun g hg => by simp; exact (h.nf g hg).1), hr, h.ne, h.nf, ?_, ?_, ?_⟩, hl⟩
  · rw [hl, h.tot]
    unfold sumL
    rw [sum_pins _ d n _ hd hf, sum_rest _ d _ hd hf]
  · rw [hl, hu, h.use]
    unfold usedL
    rw [sum_pins _ d n _ hd hf, sum_rest _ d _ hd hf]
    simp only
    omega
  · rw [hl]
    exact good_pins h.good hn

theorem RkW.pin_done {S : List Nat} {w w1 w3 : World} {b : Nat} {P : List Place} {fv : Value} {bm : Nat} {budget total pinned pinned' : Int} {M : Dig → Nat} {I F : List Nat} {d : Dig} {p : Place} {i : Nat} (n : Int) (h : RkW w1 b P fv bm budget total pinned M I F)
    (hS : b ∈ S ∧ bm ∈ S ∧ ∀ g, fv.ownBlock = some g → g ∈ S) (hi : M d = i) (h0 : M d ≠ 0) (hp : P[i]? = some p) (hn : 0 ≤ n ∧ n ≤ 1073741824) (hb : RkBlk w3 b (P.set i { p with jar := { p.jar with pins := n } }) fv bm budget total pinned') (k : Keep [b] w1 w3)
    (hu : pinned' = pinned - (if p.jar.pins > 0 then p.jar.size else 0) + (if n > 0 then p.jar.size else 0)) (k0 : Keep [] w w1) : Rk S w3 b budget (pinsL (I.map (jarF P)) d n) ∧ Keep S w w3 := by
  subst hi
  have hpj : jarF P (M d) = p.jar := by unfold jarF; rw [getD_get hp]
  have := h.pins (d := d) (n := n) (w1 := w3) (pinned' := pinned') h0 hn (by rw [getD_get hp, hpj]; exact hb) k (by rw [hpj]; exact hu)
  refine ⟨⟨_, fv, bm, total, pinned', M, I, F, this.1, this.2.symm, hS.1, hS.2.1, hS.2.2⟩, (k0.mono (by simp)).trans' k ?_⟩
  intro x hx _
  simp at hx
  rw [hx]
  exact hS.1

set_option maxRecDepth 100000 in
set_option maxHeartbeats 1000000 in
theorem rack_Pin {S : List Nat} (b : Nat) (budget : Int) (L : List Jar) (d : Dig) (w : World) (h : Rk S w b budget L) :
    Calls Try.prog 37 #[.pointer (some ⟨b, 0, none⟩), .agg (digC d).toArray] w fun e w' => e = .returned (.int .i64 (pinE L d)) ∧ Rk S w' b budget (pinL L d) ∧ Keep S w w' := by
  have h' := h
  obtain ⟨P, fv, bm, total, pinned, M, I, F, h1, hL, m1, m2, m3⟩ := h
  have hkA := (Keep.refl [] w).alloc (.cells (digC d).toArray 44)
  have hbA := Blk.newA w (digC d).toArray 44
  have hF := h1.find hkA d
  have hrg : (w.alloc (.cells (digC d).toArray 44)).rangeAt w.heap.size 0 (digC d) := fun j v hv => by
    rw [Nat.zero_add]; exact hbA.get (by simpa using hv)
  have hdl : (Try.prog.info? 44).map (·.size) = some (digC d).length := by rw [digC_length]; exact dig_size
  have hA := h1.keep0 hkA
  generalize hwA : w.alloc (.cells (digC d).toArray 44) = wA at hkA hrg hF hA
  generalize digC d = dc at hrg hwA hdl hF
  have HRG := Lib.hid hrg
  have HDL := Lib.hid hdl
  by_cases h0 : M d = 0
  · have hf := h1.ring.find_no h0
    rw [← hL] at hf
    have e1 : pinE L d = 7 := by unfold pinE; rw [hf]
    have e2 : pinL L d = L := by unfold pinL; rw [hf]
    rw [e1, e2]
    rw [h0, if_pos rfl] at hF
    have HF := Lib.hid hF
    have HR := Lib.hid (And.intro h' hkA)
    clear h1 hL hrg hdl h0 hf e1 e2 hbA hA h' hF m1 m2 m3 hkA
    go_enter Try.func37, Try.ntmps37
    go_wp2_with (first
      | (refine wpList_load_mid rfl 44 (.tmp 3) rfl w.heap.size 0 (by rfl) dc _ HRG.out Try.underlying44 rfl HDL.out ?_)
      | fail)
    try simp only [Act.put, List.setIfInBounds_toArray, List.set_cons_succ, List.set_cons_zero]
    try go_wp2_with fail
    refine HF.out.mono ?_
    rintro e w1 ⟨rfl, hk1⟩
    go_wp2_with fail
    go_ret
    exact ⟨rfl, HR.out.1.keep0 (HR.out.2.trans hk1), (HR.out.2.trans hk1).mono (by simp)⟩
  · have hf := h1.ring.find_yes h0
    have hb65 := h1.ring.at0 h0
    obtain ⟨p, hp⟩ : ∃ p, P[M d]? = some p := ⟨_, List.getElem?_eq_getElem (by have := h1.ring.len; omega)⟩
    have hpj : jarF P (M d) = p.jar := by unfold jarF; rw [getD_get hp]
    have hok := h1.good _ (find_mem hf).1
    rw [hpj] at hok hf
    have hub := used_bound h1.good (by have := h1.ring.count; simp; omega)
    rw [← h1.use] at hub
    have hus : 0 < p.jar.pins → p.jar.size ≤ pinned := fun hpp => by
      have := sum_rest _ d _ h1.ring.digs hf (fun x => if x.pins > 0 then x.size else 0)
      have hb := sum_bound (fun x => if x.pins > 0 then x.size else 0) 1048576 (restL (I.map (jarF P)) d) (fun j hj => by
        obtain ⟨_, h1, h2, _⟩ := h1.good j (rest_mem hj)
        split <;> omega)
      rw [h1.use]
      unfold usedL
      rw [this, if_pos hpp]
      omega
    have e1 : pinE L d = if 1073741824 ≤ p.jar.pins then 6 else 0 := by unfold pinE; rw [hL, hf]
    have e2 : pinL L d = if 1073741824 ≤ p.jar.pins then L else pinsL (I.map (jarF P)) d (p.jar.pins + 1) := by unfold pinL; rw [hL, hf]
    rw [if_neg h0] at hF
    obtain ⟨i, hMd⟩ : ∃ i, M d = i := ⟨_, rfl⟩
    have HMD := Lib.hid (And.intro hMd h0)
    rw [hMd] at hF hb65 hp hpj
    have HF := Lib.hid hF
    have HR := Lib.hid (And.intro hA hkA)
    have HM := Lib.hid (And.intro m1 (And.intro m2 m3))
    have HH := Lib.hid h'
    have HP := Lib.hid (And.intro hp hok)
    have hi0 : (0 : Int) ≤ (i : Int) := by omega
    have hi1 : (i : Int) < 65 := by omega
    have HE := Lib.hid (And.intro e1 e2)
    clear h1 hL hrg hdl h0 hf e1 e2 hbA hA h' hF m1 m2 m3 hkA hb65 hp hpj hok hMd
    obtain ⟨pn, hpn⟩ : ∃ pn, pn = p.jar.pins := ⟨_, rfl⟩
    obtain ⟨ps, hps⟩ : ∃ ps, ps = p.jar.size := ⟨_, rfl⟩
    rw [← hpn, ← hps] at hus
    rw [← hpn] at HE
    have HPP := Lib.hid (And.intro hpn hps)
    obtain ⟨_, hs1, hs2, hp1, hp2⟩ := HP.out.2
    rw [← hpn] at hp1 hp2
    rw [← hps] at hs1 hs2
    clear hpn hps
    go_enter Try.func37, Try.ntmps37
    go_wp2_with (first
      | (refine wpList_load_mid rfl 44 (.tmp 3) rfl w.heap.size 0 (by rfl) dc _ HRG.out Try.underlying44 rfl HDL.out ?_)
      | fail)
    try simp only [Act.put, List.setIfInBounds_toArray, List.set_cons_succ, List.set_cons_zero]
    try go_wp2_with fail
    refine HF.out.mono ?_
    rintro e w1 ⟨rfl, hk1⟩
    have hR1 := HR.out.1.keep0 hk1
    have hk01 := HR.out.2.trans hk1
    have c33 := hR1.blk.cell HP.out.1 33 (by omega)
    have c34 := hR1.blk.cell HP.out.1 34 (by omega)
    rw [Place.at33, ← HPP.out.2] at c33
    rw [Place.at34, ← HPP.out.1] at c34
    have c9 : w1.cell? ⟨b, 2409, none⟩ = some (.int .i64 pinned) := hR1.blk.tail 4
    have hfr := hR1.blk.2.frozen
    have HB1 := Lib.hid hR1
    have HK1 := Lib.hid hk01
    clear hR1 hk01 hk1 HR
    by_cases hmx : 1073741824 ≤ pn
    · go_wp2_with fail
      go_ret
      exact ⟨ret_int (HE.out.1.trans (if_pos hmx)).symm, by rw [HE.out.2, if_pos hmx]; exact HH.out.keep0 HK1.out, HK1.out.mono (by simp)⟩
    · have HE1 := Lib.hid (HE.out.1.trans (if_neg hmx))
      have HE2 := Lib.hid (HE.out.2.trans (if_neg hmx))
      have w1p := IntWalk.i64_in (pn + 1) (by omega)
      have w2p := IntWalk.i64_in (pinned + ps) (by omega)
      have hmx' : decide (pn ≥ 1073741824) = false := by simp; omega
      by_cases hz : pn = 0
      · have hq : (pn == 0) = true := by simp [hz]
        have HZ := Lib.hid hz
        have HX := Lib.hid hmx
        clear hz hmx
        go_wp2_with fail
        go_region
        all_goals go_wp2_with fail
        go_ret
        refine ⟨ret_int HE1.out.symm, ?_⟩
        rw [HE2.out]
        have hz := HZ.out
        first | have hx := HX.out | skip
        have hb0 := HB1.out.blk
        have hb1 := hb0.setTail 4 (.int .i64 (pinned + ps)) fv bm budget total (pinned + ps) rfl
        have hb2 := hb1.setP (q := { p with jar := { p.jar with pins := pn + 1 } }) HP.out.1 34 (by omega) (.int .i64 (pn + 1)) (Place.set34 p (pn + 1))
        refine HB1.out.pin_done (pn + 1) HM.out HMD.out.1 HMD.out.2 HP.out.1 (by omega) hb2 (((Keep.refl [b] w1).setCell _ _ (by simp)).setCell _ _ (by simp)).drew ?_ HK1.out
        rw [← HPP.out.1, ← HPP.out.2]
        split <;> split <;> omega
      · have hq : (pn == 0) = false := by simp [hz]
        have HZ := Lib.hid hz
        have HX := Lib.hid hmx
        clear hz hmx
        go_wp2_with fail
        go_ret
        refine ⟨ret_int HE1.out.symm, ?_⟩
        rw [HE2.out]
        have hz := HZ.out
        first | have hx := HX.out | skip
        have hb0 := HB1.out.blk
        have hb1 := hb0.setP (q := { p with jar := { p.jar with pins := pn + 1 } }) HP.out.1 34 (by omega) (.int .i64 (pn + 1)) (Place.set34 p (pn + 1))
        refine HB1.out.pin_done (pn + 1) HM.out HMD.out.1 HMD.out.2 HP.out.1 (by omega) hb1 ((Keep.refl [b] w1).setCell _ _ (by simp)) ?_ HK1.out
        rw [← HPP.out.1, ← HPP.out.2]
        split <;> split <;> omega

set_option maxRecDepth 100000 in
set_option maxHeartbeats 1000000 in
theorem rack_Unpin {S : List Nat} (b : Nat) (budget : Int) (L : List Jar) (d : Dig) (w : World) (h : Rk S w b budget L) :
    Calls Try.prog 39 #[.pointer (some ⟨b, 0, none⟩), .agg (digC d).toArray] w fun e w' => e = .returned (.int .i64 (unpinE L d)) ∧ Rk S w' b budget (unpinL L d) ∧ Keep S w w' := by
  have h' := h
  obtain ⟨P, fv, bm, total, pinned, M, I, F, h1, hL, m1, m2, m3⟩ := h
  have hkA := (Keep.refl [] w).alloc (.cells (digC d).toArray 44)
  have hbA := Blk.newA w (digC d).toArray 44
  have hF := h1.find hkA d
  have hrg : (w.alloc (.cells (digC d).toArray 44)).rangeAt w.heap.size 0 (digC d) := fun j v hv => by
    rw [Nat.zero_add]; exact hbA.get (by simpa using hv)
  have hdl : (Try.prog.info? 44).map (·.size) = some (digC d).length := by rw [digC_length]; exact dig_size
  have hA := h1.keep0 hkA
  generalize hwA : w.alloc (.cells (digC d).toArray 44) = wA at hkA hrg hF hA
  generalize digC d = dc at hrg hwA hdl hF
  have HRG := Lib.hid hrg
  have HDL := Lib.hid hdl
  by_cases h0 : M d = 0
  · have hf := h1.ring.find_no h0
    rw [← hL] at hf
    have e1 : unpinE L d = 7 := by unfold unpinE; rw [hf]
    have e2 : unpinL L d = L := by unfold unpinL; rw [hf]
    rw [e1, e2]
    rw [h0, if_pos rfl] at hF
    have HF := Lib.hid hF
    have HR := Lib.hid (And.intro h' hkA)
    clear h1 hL hrg hdl h0 hf e1 e2 hbA hA h' hF m1 m2 m3 hkA
    go_enter Try.func39, Try.ntmps39
    go_wp2_with (first
      | (refine wpList_load_mid rfl 44 (.tmp 3) rfl w.heap.size 0 (by rfl) dc _ HRG.out Try.underlying44 rfl HDL.out ?_)
      | fail)
    try simp only [Act.put, List.setIfInBounds_toArray, List.set_cons_succ, List.set_cons_zero]
    try go_wp2_with fail
    refine HF.out.mono ?_
    rintro e w1 ⟨rfl, hk1⟩
    go_wp2_with fail
    go_ret
    exact ⟨rfl, HR.out.1.keep0 (HR.out.2.trans hk1), (HR.out.2.trans hk1).mono (by simp)⟩
  · have hf := h1.ring.find_yes h0
    have hb65 := h1.ring.at0 h0
    obtain ⟨p, hp⟩ : ∃ p, P[M d]? = some p := ⟨_, List.getElem?_eq_getElem (by have := h1.ring.len; omega)⟩
    have hpj : jarF P (M d) = p.jar := by unfold jarF; rw [getD_get hp]
    have hok := h1.good _ (find_mem hf).1
    rw [hpj] at hok hf
    have hub := used_bound h1.good (by have := h1.ring.count; simp; omega)
    rw [← h1.use] at hub
    have hus : 0 < p.jar.pins → p.jar.size ≤ pinned := fun hpp => by
      have := sum_rest _ d _ h1.ring.digs hf (fun x => if x.pins > 0 then x.size else 0)
      have hb := sum_bound (fun x => if x.pins > 0 then x.size else 0) 1048576 (restL (I.map (jarF P)) d) (fun j hj => by
        obtain ⟨_, h1, h2, _⟩ := h1.good j (rest_mem hj)
        split <;> omega)
      rw [h1.use]
      unfold usedL
      rw [this, if_pos hpp]
      omega
    have e1 : unpinE L d = if p.jar.pins = 0 then 8 else 0 := by unfold unpinE; rw [hL, hf]
    have e2 : unpinL L d = if p.jar.pins = 0 then L else pinsL (I.map (jarF P)) d (p.jar.pins - 1) := by unfold unpinL; rw [hL, hf]
    rw [if_neg h0] at hF
    obtain ⟨i, hMd⟩ : ∃ i, M d = i := ⟨_, rfl⟩
    have HMD := Lib.hid (And.intro hMd h0)
    rw [hMd] at hF hb65 hp hpj
    have HF := Lib.hid hF
    have HR := Lib.hid (And.intro hA hkA)
    have HM := Lib.hid (And.intro m1 (And.intro m2 m3))
    have HH := Lib.hid h'
    have HP := Lib.hid (And.intro hp hok)
    have hi0 : (0 : Int) ≤ (i : Int) := by omega
    have hi1 : (i : Int) < 65 := by omega
    have HE := Lib.hid (And.intro e1 e2)
    clear h1 hL hrg hdl h0 hf e1 e2 hbA hA h' hF m1 m2 m3 hkA hb65 hp hpj hok hMd
    obtain ⟨pn, hpn⟩ : ∃ pn, pn = p.jar.pins := ⟨_, rfl⟩
    obtain ⟨ps, hps⟩ : ∃ ps, ps = p.jar.size := ⟨_, rfl⟩
    rw [← hpn, ← hps] at hus
    rw [← hpn] at HE
    have HPP := Lib.hid (And.intro hpn hps)
    obtain ⟨_, hs1, hs2, hp1, hp2⟩ := HP.out.2
    rw [← hpn] at hp1 hp2
    rw [← hps] at hs1 hs2
    clear hpn hps
    go_enter Try.func39, Try.ntmps39
    go_wp2_with (first
      | (refine wpList_load_mid rfl 44 (.tmp 3) rfl w.heap.size 0 (by rfl) dc _ HRG.out Try.underlying44 rfl HDL.out ?_)
      | fail)
    try simp only [Act.put, List.setIfInBounds_toArray, List.set_cons_succ, List.set_cons_zero]
    try go_wp2_with fail
    refine HF.out.mono ?_
    rintro e w1 ⟨rfl, hk1⟩
    have hR1 := HR.out.1.keep0 hk1
    have hk01 := HR.out.2.trans hk1
    have c33 := hR1.blk.cell HP.out.1 33 (by omega)
    have c34 := hR1.blk.cell HP.out.1 34 (by omega)
    rw [Place.at33, ← HPP.out.2] at c33
    rw [Place.at34, ← HPP.out.1] at c34
    have c9 : w1.cell? ⟨b, 2409, none⟩ = some (.int .i64 pinned) := hR1.blk.tail 4
    have hfr := hR1.blk.2.frozen
    have HB1 := Lib.hid hR1
    have HK1 := Lib.hid hk01
    clear hR1 hk01 hk1 HR
    by_cases hmx : pn = 0
    · have hq : (pn == 0) = true := by simp [hmx]
      have HX := Lib.hid hmx
      clear hmx
      go_wp2_with fail
      go_ret
      exact ⟨ret_int (HE.out.1.trans (if_pos HX.out)).symm, by rw [HE.out.2, if_pos HX.out]; exact HH.out.keep0 HK1.out, HK1.out.mono (by simp)⟩
    · have HE1 := Lib.hid (HE.out.1.trans (if_neg hmx))
      have HE2 := Lib.hid (HE.out.2.trans (if_neg hmx))
      have w1p := IntWalk.i64_in (pn - 1) (by omega)
      have hus2 := hus (by omega)
      have w2p := IntWalk.i64_in (pinned - ps) (by omega)
      have hq : (pn == 0) = false := by simp [hmx]
      by_cases hz : pn = 1
      · have hq2 : (pn - 1 == 0) = true := by simp [hz]
        have HZ := Lib.hid hz
        clear hz hmx hus
        go_wp2_with fail
        go_region
        all_goals go_wp2_with fail
        go_ret
        refine ⟨ret_int HE1.out.symm, ?_⟩
        rw [HE2.out]
        have hz := HZ.out
        first | have hx := HX.out | skip
        have hb0 := HB1.out.blk
        have hb1 := hb0.setP (q := { p with jar := { p.jar with pins := pn - 1 } }) HP.out.1 34 (by omega) (.int .i64 (pn - 1)) (Place.set34 p (pn - 1))
        have hb2 := hb1.setTail 4 (.int .i64 (pinned - ps)) fv bm budget total (pinned - ps) rfl
        refine HB1.out.pin_done (pn - 1) HM.out HMD.out.1 HMD.out.2 HP.out.1 (by omega) hb2 (((Keep.refl [b] w1).setCell _ _ (by simp)).setCell _ _ (by simp)).drew ?_ HK1.out
        rw [← HPP.out.1, ← HPP.out.2]
        split <;> split <;> omega
      · have hq2 : (pn - 1 == 0) = false := by simp; omega
        have HZ := Lib.hid hz
        clear hz hus
        have HX := Lib.hid hmx
        clear hmx
        go_wp2_with fail
        go_ret
        refine ⟨ret_int HE1.out.symm, ?_⟩
        rw [HE2.out]
        have hz := HZ.out
        first | have hx := HX.out | skip
        have hb0 := HB1.out.blk
        have hb1 := hb0.setP (q := { p with jar := { p.jar with pins := pn - 1 } }) HP.out.1 34 (by omega) (.int .i64 (pn - 1)) (Place.set34 p (pn - 1))
        refine HB1.out.pin_done (pn - 1) HM.out HMD.out.1 HMD.out.2 HP.out.1 (by omega) hb1 ((Keep.refl [b] w1).setCell _ _ (by simp)) ?_ HK1.out
        rw [← HPP.out.1, ← HPP.out.2]
        split <;> split <;> omega
end Go.Proofs.Ytbfnpoknamajnaa
