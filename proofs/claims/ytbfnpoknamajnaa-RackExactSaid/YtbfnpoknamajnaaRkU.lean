/- Layer 21: Put. No conditions. -/
import Derived.Test.YtbfnpoknamajnaaRkD
namespace Go.Proofs.Ytbfnpoknamajnaa
open Go.RowKit Go.Maps

def goodJ (j : Jar) : Bool := decide (j.typ.length ≤ 100) && decide (0 ≤ j.size) && decide (j.size ≤ 1048576) && decide (j.pins = 0)
set_option maxHeartbeats 1000000 in
theorem rack_isJar (j : Jar) (w : World) : Calls Try.prog 51 #[.agg j.cells.toArray] w fun e w' => e = .returned (.bool (goodJ j)) ∧ Keep [] w w' := by
  have hb := Blk.newA w j.cells.toArray 46
  have c32 := hb.get (k := 32) (v := .string (S j.typ)) (by simp [Jar.cells, digC_length, List.getElem?_append])
  have c33 := hb.get (k := 33) (v := .int .i64 j.size) (by simp [Jar.cells, digC_length, List.getElem?_append])
  have c34 := hb.get (k := 34) (v := .int .i64 j.pins) (by simp [Jar.cells, digC_length, List.getElem?_append])
  have hk := (Keep.refl [] w).alloc (.cells j.cells.toArray 46)
  have hG : goodJ j = (decide (j.typ.length ≤ 100) && decide (0 ≤ j.size) && decide (j.size ≤ 1048576) && decide (j.pins = 0)) := rfl
  have hsz := S_size j.typ
  generalize goodJ j = gd at hG
  generalize j.cells.toArray = cs at c32 c33 c34 hk hb
  obtain ⟨_, t, sz, pn⟩ := j
  dsimp only at c32 c33 c34 hG hsz
  have HK := Lib.hid hk
  have HG := Lib.hid hG
  clear hk hG hb
  by_cases h1 : t.length ≤ 100
  · have h1' : ((t.length : Nat) : Int) ≤ 100 := by omega
    by_cases h2 : 0 ≤ sz
    · by_cases h3 : sz ≤ 1048576
      · by_cases h4 : pn = 0
        · have h4' : (pn == 0) = true := by simp [h4]
          have HX := Lib.hid (show gd = true by rw [HG.out]; simp [h1, h2, h3, h4])
          clear h4
          go_enter Try.func51, Try.ntmps51
          go_wp2_with fail
          go_ret
          exact ⟨ret_bool HX.out.symm, HK.out⟩
        · have h4' := (int_ne' h4).1
          have HX := Lib.hid (show gd = false by rw [HG.out]; simp [h4])
          go_enter Try.func51, Try.ntmps51
          go_wp2_with fail
          go_ret
          exact ⟨ret_bool HX.out.symm, HK.out⟩
      · have h3' : decide (sz ≤ 1048576) = false := by simp; omega
        have HX := Lib.hid (show gd = false by rw [HG.out]; simp [h3])
        clear h3
        go_enter Try.func51, Try.ntmps51
        go_wp2_with fail
        go_ret
        exact ⟨ret_bool HX.out.symm, HK.out⟩
    · have h2' : decide (sz ≥ 0) = false := by simp; omega
      have HX := Lib.hid (show gd = false by rw [HG.out]; simp [h2])
      clear h2
      go_enter Try.func51, Try.ntmps51
      go_wp2_with fail
      go_ret
      exact ⟨ret_bool HX.out.symm, HK.out⟩
  · have h1' : decide (((t.length : Nat) : Int) ≤ 100) = false := by simp; omega
    have HX := Lib.hid (show gd = false by rw [HG.out]; simp [h1])
    clear h1
    go_enter Try.func51, Try.ntmps51
    go_wp2_with fail
    go_ret
    exact ⟨ret_bool HX.out.symm, HK.out⟩

/-- many cells are set -/
def setL (xs : List Value) (o : Nat) : List Value → List Value
  | [] => xs
  | v :: r => setL (xs.set o v) (o + 1) r
theorem setL_length : ∀ (vs xs : List Value) (o : Nat), (setL xs o vs).length = xs.length
  | [], xs, o => rfl
  | v :: r, xs, o => by rw [setL, setL_length r, List.length_set]
theorem setL_get : ∀ (vs xs : List Value) (o k : Nat), o + vs.length ≤ xs.length → (setL xs o vs)[k]? = if o ≤ k ∧ k < o + vs.length then vs[k - o]? else xs[k]?
  | [], xs, o, k, _ => by simp [setL]; intro h1 h2; omega
  | v :: r, xs, o, k, h => by
    simp only [List.length_cons] at h
    rw [setL, setL_get r _ _ k (by simp; omega)]
    by_cases h1 : k = o
    · subst h1
      rw [if_neg (by omega), if_pos (by simp), List.getElem?_set_self (by omega)]
      simp
    · by_cases h2 : o + 1 ≤ k ∧ k < o + 1 + r.length
      · rw [if_pos h2, if_pos (by simp; omega)]
        have : k - o = (k - (o + 1)) + 1 := by omega
        rw [this, List.getElem?_cons_succ]
      · rw [if_neg h2, if_neg (by simp; omega), List.getElem?_set_ne (by omega)]
theorem Blk.setCells {b : Nat} {T : TypeId} : ∀ (vs : List Value) {w : World} {xs : List Value} (o : Nat), Blk w b T xs → Blk (w.setCells b o vs) b T (setL xs o vs)
  | [], w, xs, o, h => h
  | v :: r, w, xs, o, h => by
    rw [World.setCells, setL]
    exact Blk.setCells r (o + 1) (h.set o v)
theorem RkBlk.setJar {w : World} {b : Nat} {P : List Place} {fv : Value} {bm : Nat} {budget total pinned : Int} (h : RkBlk w b P fv bm budget total pinned) {k : Nat} {p : Place} (hk : P[k]? = some p) (j : Jar) :
    RkBlk (w.setCells b (k * 37) j.cells) b (P.set k { p with jar := j }) fv bm budget total pinned := by
  have hlt := (List.getElem?_eq_some_iff.1 hk).1
  have hl : (rows Place.cells P).length = 2405 := by rw [rows_length Place.cells_length, h.1]
  have h65 := h.1
  refine ⟨by simpa using h.1, ?_⟩
  have hs := h.2.setCells j.cells (k * 37)
  have e : setL (rows Place.cells P ++ [fv, .map (some bm), .int .i64 budget, .int .i64 total, .int .i64 pinned]) (k * 37) j.cells = rows Place.cells (P.set k { p with jar := j }) ++ [fv, .map (some bm), .int .i64 budget, .int .i64 total, .int .i64 pinned] := by
    apply List.ext_getElem?
    intro x
    have hjl := Jar.cells_length j
    have hl2 : (rows Place.cells (P.set k { p with jar := j })).length = 2405 := by rw [rows_length Place.cells_length, List.length_set, h.1]
    rw [setL_get _ _ _ _ (by simp [hl]; omega)]
    by_cases hx : x < 2405
    · rw [List.getElem?_append_left (by omega), List.getElem?_append_left (by omega)]
      obtain ⟨q, r, hr, rfl⟩ : ∃ q r, r < 37 ∧ x = q * 37 + r := ⟨x / 37, x % 37, Nat.mod_lt _ (by omega), by omega⟩
      obtain ⟨pq, hpq⟩ : ∃ y, P[q]? = some y := ⟨_, List.getElem?_eq_getElem (by omega)⟩
      rw [rows_get' Place.cells_length P q r pq hpq hr]
      by_cases hq : q = k
      · subst hq
        have hpp : pq = p := by rw [hk] at hpq; exact (Option.some.inj hpq).symm
        subst hpp
        rw [rows_get' Place.cells_length _ q r { pq with jar := j } (List.getElem?_set_self hlt) hr]
        unfold Place.cells
        dsimp only
        by_cases hr35 : r < 35
        · rw [if_pos (by omega), List.getElem?_append_left (by omega)]
          congr 1
          omega
        · rw [if_neg (by omega), List.getElem?_append_right (by rw [Jar.cells_length]; omega), List.getElem?_append_right (by omega), Jar.cells_length, hjl]
      · rw [rows_get' Place.cells_length _ q r pq (by rw [List.getElem?_set_ne (fun e => hq e.symm)]; exact hpq) hr, if_neg (by omega)]
    · rw [if_neg (by omega), List.getElem?_append_right (by omega), List.getElem?_append_right (by omega), hl, hl2]
  rwa [e] at hs
theorem own_pop {α : Type} {enc : α → List Value} {n base : Nat} {E : TypeId} {w : World} {g : Nat} {m cap : Nat} {L : List α} {x : α} (hn : ∀ x, (enc x).length = n) (h : Own enc n base E w (.slice (some ⟨g, 0, none⟩) m cap) (L ++ [x])) : Own enc n base E w (.slice (some ⟨g, 0, none⟩) L.length cap) L := by
  obtain ⟨h1, h2⟩ := h
  refine ⟨?_, ?_⟩
  · rw [rows_length hn, Nat.mul_comm]
  · rcases h2 with ⟨h3, _⟩ | ⟨g', cap', cur, hv, hb, hg, h3, h4, h5, h6⟩
    · cases h3
    · cases hv
      refine .inr ⟨g, cap, cur, rfl, hb, hg, by simp at h3; omega, h4, h5, ?_⟩
      have e : rows enc (L ++ [x]) = rows enc L ++ enc x := by simp [rows]
      rw [e] at h6
      have := congrArg (List.take (L.length * n)) h6
      rw [List.take_take, List.take_append_of_le_length (by rw [rows_length hn, Nat.mul_comm]; exact Nat.le_refl _), List.take_of_length_le (l := rows enc L) (by rw [rows_length hn, Nat.mul_comm]; exact Nat.le_refl _)] at this
      rw [← this]
      congr 1
      rw [List.length_append, List.length_singleton, Nat.add_mul]
      omega
def putE (L : List Jar) (j : Jar) : Int := if goodJ j = false then 1 else if (findL L j.dig).isSome = true then 9 else if 64 ≤ L.length then 6 else 0
def putL (L : List Jar) (j : Jar) : List Jar := if putE L j = 0 then j :: L else L

theorem rack_Put_nil (cs : Array Value) (w : World) : Calls Try.prog 17 #[.pointer none, .agg cs] w fun e w' => e = .returned (.int .i64 2) ∧ Keep [] w w' := by
  go_enter Try.func17, Try.ntmps17
  go_wp2_with fail
  go_ret
  exact ⟨rfl, (Keep.refl _ _).alloc _⟩

set_option maxRecDepth 100000 in
set_option maxHeartbeats 2000000 in
theorem rack_Put {S : List Nat} (b : Nat) (budget : Int) (L : List Jar) (j : Jar) (w : World) (h : Rk S w b budget L) :
    Calls Try.prog 17 #[.pointer (some ⟨b, 0, none⟩), .agg j.cells.toArray] w fun e w' => e = .returned (.int .i64 (putE L j)) ∧ Rk S w' b budget (putL L j) ∧ Keep S w w' := by
  have h' := h
  obtain ⟨P, fv, bm, total, pinned, M, I, F, h1, hL, m1, m2, m3⟩ := h
  have hkA := (Keep.refl [] w).alloc (.cells j.cells.toArray 46)
  have hbA : Blk (w.alloc (.cells j.cells.toArray 46)) w.heap.size 46 j.cells := by simpa using Blk.newA w j.cells.toArray 46
  have hA := h1.keep0 hkA
  have hlt : b < w.heap.size ∧ bm < w.heap.size := ⟨h1.blk.2.lt, h1.map.lt⟩
  have HSZ := Lib.hid (show (Try.prog.info? 46).map (·.size) = some j.cells.length by rw [Jar.cells_length]; exact jar_size)
  have HIJ := Lib.hid (fun w' => rack_isJar j w')
  have HE : Hid (putE L j = if goodJ j = false then 1 else if (findL L j.dig).isSome = true then 9 else if 64 ≤ L.length then 6 else 0) := Lib.hid rfl
  have HPL : Hid (putL L j = if putE L j = 0 then j :: L else L) := Lib.hid rfl
  have HH := Lib.hid h'
  have HM := Lib.hid (And.intro m1 (And.intro m2 m3))
  have HBA := Lib.hid hbA
  have HKA := Lib.hid hkA
  generalize hwA : w.alloc (.cells j.cells.toArray 46) = wA at hA HBA HKA
  have HA := Lib.hid hA
  clear h' m1 m2 m3 hbA hkA hA
  cases hg : goodJ j with
  | false =>
    have e1 : putE L j = 1 := by rw [HE.out, if_pos hg]
    have e2 : putL L j = L := by rw [HPL.out, e1]; rfl
    rw [e1, e2]
    rw [hg] at HIJ
    clear hg e1 e2 HE HPL h1 hL
    go_enter Try.func17, Try.ntmps17
    go_wp2_with (first
      | (refine wpList_load_mid rfl 46 (.tmp 3) rfl w.heap.size 0 (by rfl) j.cells _ HBA.out.rangeAt Try.underlying46 rfl HSZ.out ?_)
      | fail)
    try simp only [Act.put, List.setIfInBounds_toArray, List.set_cons_succ, List.set_cons_zero]
    try go_wp2_with fail
    refine (HIJ.out _).mono ?_
    rintro e w1 ⟨rfl, hk1⟩
    go_wp2_with fail
    go_ret
    exact ⟨rfl, HH.out.keep0 (HKA.out.trans hk1), (HKA.out.trans hk1).mono (by simp)⟩
  | true =>
    have hgj : j.typ.length ≤ 100 ∧ 0 ≤ j.size ∧ j.size ≤ 1048576 ∧ j.pins = 0 := by
      unfold goodJ at hg
      simp only [Bool.and_eq_true, decide_eq_true_eq] at hg
      exact ⟨hg.1.1.1, hg.1.1.2, hg.1.2, hg.2⟩
    have e0 : putE L j = if (findL L j.dig).isSome = true then 9 else if 64 ≤ L.length then 6 else 0 := by rw [HE.out, if_neg (by simp [hg])]
    rw [hg] at HIJ
    have hdl := digC_length j.dig
    have hrd : ∀ (w' : World) (n : Nat), Blk w' n 46 j.cells → w'.rangeAt n 0 (digC j.dig) := fun w' n hb x v hv => by
      refine hb.rangeAt x v ?_
      unfold Jar.cells
      rw [List.getElem?_append_left (List.getElem?_eq_some_iff.1 hv).1]
      exact hv
    have HRD := Lib.hid hrd
    have HDL := Lib.hid (show (Try.prog.info? 44).map (·.size) = some (digC j.dig).length by rw [hdl]; exact dig_size)
    have HD := Lib.hid (fun w' (hm : MapIs w' bm M I.length) => hm.look j.dig)
    have HPU := Lib.hid (fun w' (hm : MapIs w' bm M I.length) (i : Nat) (hi : 0 < i) (hi2 : i < 65) (h0 : M j.dig = 0) => hm.put j.dig i hi hi2 h0 (by have := h1.ring.count; show I.length < 9223372036854775807; omega))
    clear hrd hdl HE hg
    generalize hdc : digC j.dig = dc at HRD HDL HD HPU
    by_cases h0 : M j.dig = 0
    · have hf := h1.ring.find_no h0
      rw [← hL] at hf
      have e1 : putE L j = if 64 ≤ L.length then 6 else 0 := by rw [e0, hf]; rfl
      have hc := h1.ring.count
      have hll : L.length = I.length := by rw [hL, List.length_map]
      rw [h0] at HD
      have HH0 := Lib.hid h0
      clear hf e0 h0
      rcases List.eq_nil_or_concat F with hF | ⟨F', i, hF⟩
      · subst hF
        simp only [List.length_nil] at hc
        have hE1 : putE L j = 6 := by rw [e1, if_pos (by omega)]
        have hE2 : putL L j = L := by rw [HPL.out, hE1]; rfl
        rw [hE1, hE2]
        obtain ⟨fa, fc, hfv, _⟩ := HA.out.own.shape
        have hfv' : fv = .slice fa 0 fc := hfv
        clear hE1 hE2 e1 hfv
        have HA1 := Lib.hid (fun w' (k : Keep [] wA w') => HA.out.keep0 k)
        clear h1 hL
        go_enter Try.func17, Try.ntmps17
        go_wp2_with (first
          | (refine wpList_load_mid rfl 46 (.tmp 3) rfl w.heap.size 0 (by rfl) j.cells _ HBA.out.rangeAt Try.underlying46 rfl HSZ.out ?_)
          | fail)
        try simp only [Act.put, List.setIfInBounds_toArray, List.set_cons_succ, List.set_cons_zero]
        try go_wp2_with fail
        refine (HIJ.out _).mono ?_
        rintro e w1 ⟨rfl, hk1⟩
        have hW1 := HA1.out w1 hk1
        have c6 : w1.cell? ⟨b, 2406, none⟩ = some (.map (some bm)) := hW1.blk.tail 1
        have c5 : w1.cell? ⟨b, 2405, none⟩ = some fv := hW1.blk.tail 0
        rw [hfv'] at c5
        have hlk : ∀ x, (Instr.lookup 95 (.map (some bm)) (.agg dc.toArray) false).run Try.prog (w1.drewN x) = .ok (.int .i64 ((0 : Nat) : Int)) (w1.drewN x) := fun x => HD.out _ (hW1.map.drewN x)
        have hrg : Hid (∀ w', (∃ x, w' = w1.drewN x) → w'.rangeAt w.heap.size 0 dc) := fun w' ⟨x, hx⟩ => by
          subst hx
          exact HRD.out _ _ ((hk1.blk HBA.out (by simp)).drewN x)
        have HK1 := Lib.hid (HKA.out.trans hk1)
        clear hk1 hW1
        go_wp2_with fail
        refine wp_region_quiet_lit (by kernel_rfl) (by kernel_rfl) ?_
        repeat (go_big_quiet_step (fail))
        refine wpQuiet_load rfl 44 (.tmp 18) rfl w.heap.size 0 (by rfl) dc _ hrg.out Try.underlying44 rfl HDL.out ?_
        simp only [Act.put, List.setIfInBounds_toArray, List.set_cons_succ, List.set_cons_zero]
        repeat (go_big_quiet_step (fail))
        refine wpQuiet_nil ?_
        intro _ hw'
        obtain ⟨nq, hw''⟩ := hw'
        subst hw''
        have d5 : (w1.drewN nq).cell? ⟨b, 2405, none⟩ = some (.slice fa 0 fc) := c5
        have kq := Lib.hid (HK1.out.drewN nq)
        generalize w1.drewN nq = w2 at d5 kq
        go_wp2_with fail
        go_ret
        exact ⟨rfl, HH.out.keep0 kq.out, kq.out.mono (by simp)⟩
      · rw [List.concat_eq_append] at hF
        subst hF
        have hc' : I.length + F'.length = 63 := by simp at hc; omega
        have hE1 : putE L j = 0 := by rw [e1, if_neg (by omega)]
        have hE2 : putL L j = j :: L := by rw [HPL.out, hE1]; rfl
        rw [hE1, hE2]
        clear hE1 hE2 e1
        have hib := h1.ring.bound (k := i) (by simp)
        have hrp := h1.ring.put j HH0.out
        have hprv := h1.ring.prv0
        obtain ⟨p, hp⟩ : ∃ p, P[i]? = some p := ⟨_, List.getElem?_eq_getElem (by have := h1.ring.len; omega)⟩
        rw [getD_get hp] at hrp
        have hpr : ((P.set i { p with jar := j }).getD 0 default).prev = (P.getD 0 default).prev := by
          have := jset_prv (P := P) (k := i) j (by have := h1.ring.len; omega) 0
          unfold prvF at this
          rwa [getD_get hp] at this
        obtain ⟨g, fc, hfv, hfl1, hfl2⟩ : ∃ g fc, fv = .slice (some ⟨g, 0, none⟩) (F'.length + 1) fc ∧ F'.length + 1 ≤ fc ∧ fc ≤ maxLen := by
          rcases h1.own.2 with ⟨_, hz⟩ | ⟨g, fc, cur, hv, _, _, hx1, hx2, _⟩
          · simp at hz
          · exact ⟨g, fc, by rw [hv]; simp, by simpa using hx1, hx2⟩
        subst hfv
        have hgx := h1.nf g rfl
        have hmb := h1.ne
        have hsb := size_bound h1.good (by simp; omega)
        rw [← h1.tot] at hsb
        have hgood := h1.good
        have htot := h1.tot
        have huse := h1.use
        have HP := Lib.hid (And.intro hp (And.intro hrp (And.intro hprv (And.intro hpr (And.intro hgood (And.intro htot huse))))))
        have HX := Lib.hid (And.intro hgx (And.intro hmb hib))
        have HC := Lib.hid (And.intro hc' hll)
        have HLL := Lib.hid hL
        have HA1 := Lib.hid (fun w' (k : Keep [] wA w') => HA.out.keep0 k)
        have hi0 : (0 : Int) ≤ (i : Int) := by omega
        have hi1 : (i : Int) < 65 := by omega
        have hfl2 : fc ≤ 9223372036854775807 := hfl2
        have hF64 : F'.length ≤ 63 := by omega
        obtain ⟨n, hn⟩ : ∃ n, n = F'.length := ⟨_, rfl⟩
        have HN := Lib.hid hn
        rw [← hn] at hfl1 hF64
        have hn0 : (0 : Int) ≤ (n : Int) := by omega
        have hn1 : (n : Int) < (n : Int) + 1 := by omega
        have hnw := IntWalk.i64_in ((n : Int) + 1 - 1) (by omega)
        have hnw2 := IntWalk.i64_in (n : Int) (by omega)
        have hnn : (((n : Int) + 1 == 0)) = false := by simp; omega
        have hnt : ((n : Int) + 1 - 1) = (n : Int) := by omega
        have hnc : (n : Int) ≤ (fc : Int) := by omega
        rw [← hn] at HA HA1
        clear h1 hL hib hrp hprv hp hpr hgx hmb hgood htot huse hc' hc hll hn
        go_enter Try.func17, Try.ntmps17
        go_wp2_with (first
          | (refine wpList_load_mid rfl 46 (.tmp 3) rfl w.heap.size 0 (by rfl) j.cells _ HBA.out.rangeAt Try.underlying46 rfl HSZ.out ?_)
          | fail)
        try simp only [Act.put, List.setIfInBounds_toArray, List.set_cons_succ, List.set_cons_zero]
        try go_wp2_with fail
        refine (HIJ.out _).mono ?_
        rintro e w1 ⟨rfl, hk1⟩
        have hW1 := HA1.out w1 hk1
        have c6 : w1.cell? ⟨b, 2406, none⟩ = some (.map (some bm)) := hW1.blk.tail 1
        have hlk : ∀ x, (Instr.lookup 95 (.map (some bm)) (.agg dc.toArray) false).run Try.prog (w1.drewN x) = .ok (.int .i64 ((0 : Nat) : Int)) (w1.drewN x) := fun x => HD.out _ (hW1.map.drewN x)
        have hrg : Hid (∀ w', (∃ x, w' = w1.drewN x) → w'.rangeAt w.heap.size 0 dc) := fun w' ⟨x, hx⟩ => by
          subst hx
          exact HRD.out _ _ ((hk1.blk HBA.out (by simp)).drewN x)
        have HK1 := Lib.hid (HKA.out.trans hk1)
        have HKK := Lib.hid hk1
        clear hk1 hW1
        go_wp2_with fail
        refine wp_region_quiet_lit (by kernel_rfl) (by kernel_rfl) ?_
        repeat (go_big_quiet_step (fail))
        refine wpQuiet_load rfl 44 (.tmp 18) rfl w.heap.size 0 (by rfl) dc _ hrg.out Try.underlying44 rfl HDL.out ?_
        simp only [Act.put, List.setIfInBounds_toArray, List.set_cons_succ, List.set_cons_zero]
        repeat (go_big_quiet_step (fail))
        refine wpQuiet_nil ?_
        intro _ hw'
        obtain ⟨nq, hw''⟩ := hw'
        subst hw''
        have hk2 : Keep [] wA (w1.drewN nq) := HKK.out.drewN nq
        generalize w1.drewN nq = w2 at hk2
        have hW2 := HA1.out w2 hk2
        have d5 : w2.cell? ⟨b, 2405, none⟩ = some (.slice (some ⟨g, 0, none⟩) (n + 1) fc) := hW2.blk.tail 0
        have f2 := hW2.blk.2.frozen
        have hel := (hW2.own.sl intC_length).cell (i := n) (x := i) (by rw [HN.out]; simp)
        obtain ⟨gb, go, gc, hge, _, _, hgi⟩ := hel
        obtain ⟨rfl, rfl, rfl⟩ : gb = g ∧ go = 0 ∧ gc = fc := by
          simp at hge
          exact ⟨hge.1.1.symm, hge.1.2.symm, hge.2.2.symm⟩
        have dg := hgi 0 (by simp [intC])
        rw [show 0 + n * 1 + 0 = n by omega] at dg
        simp only [intC, List.getElem?_cons_zero] at dg
        have HW2 := Lib.hid hW2
        have HK2 := Lib.hid hk2
        clear hgi hge hW2 hk2 hlk hrg c6 HK1 HKK
        go_wp2_with fail
        go_quiet (fail)
        have hk2b : Keep [] wA (w2.drewN nq) := HK2.out.drewN nq
        generalize w2.drewN nq = wb at hk2b
        have hWb := HA1.out wb hk2b
        have HBb := Lib.hid (hk2b.blk HBA.out (by simp))
        have HKb := Lib.hid (HKA.out.trans hk2b)
        have e5 : wb.cell? ⟨b, 2405, none⟩ = some (.slice (some ⟨gb, 0, none⟩) (n + 1) gc) := hWb.blk.tail 0
        have fb := hWb.blk.2.frozen
        have HWb := Lib.hid hWb
        clear hWb d5 f2 dg HW2 HK2 hk2b
        go_wp2_with fail
        go_region
        have hbn : w.heap.size ∉ [b] := by simp; omega
        have hk3 : Keep [b] wb (wb.setCell ⟨b, 2405, none⟩ (.slice (some ⟨gb, 0, none⟩) n gc)).drew := ((Keep.refl _ _).setCell _ _ (by simp)).drew
        have hb3 : RkBlk (wb.setCell ⟨b, 2405, none⟩ (.slice (some ⟨gb, 0, none⟩) n gc)).drew b P (.slice (some ⟨gb, 0, none⟩) n gc) bm budget total pinned := HWb.out.blk.setTail 0 _ _ _ _ _ _ rfl
        generalize (wb.setCell ⟨b, 2405, none⟩ (.slice (some ⟨gb, 0, none⟩) n gc)).drew = w3 at hk3 hb3
        have hB3 := hk3.blk HBb.out hbn
        have hr3 : w3.drew.rangeAt w.heap.size 0 j.cells := hB3.rangeAt
        have hth : w3.drew.there b (i * 37) j.cells.toArray.size := by
          refine Blk.there (w := w3) hb3.2 (i * 37) _ ?_
          have hl : (rows Place.cells P).length = 2405 := by rw [rows_length Place.cells_length, hb3.1]
          rw [List.length_append, hl, List.size_toArray, Jar.cells_length]
          simp only [List.length_cons, List.length_nil]
          omega
        have hb4 : RkBlk (w3.drew.setCells b (i * 37) j.cells) b (P.set i { p with jar := j }) (.slice (some ⟨gb, 0, none⟩) n gc) bm budget total pinned := RkBlk.setJar (w := w3.drew) hb3 HP.out.1 j
        have hk4 : Keep [b] w3 (w3.drew.setCells b (i * 37) j.cells) := Keep.setCells b (by simp) _ _ _ (Keep.refl _ _).drew
        have hB4 := hk4.blk hB3 hbn
        have hr4 : (w3.drew.setCells b (i * 37) j.cells).rangeAt w.heap.size 0 j.cells := hB4.rangeAt
        have H4 := Lib.hid (And.intro hk3 (And.intro hk4 (And.intro hb4 hB4)))
        clear hbn hk3 hb3 hB3 hb4 hk4 hB4 e5 fb
        go_wp2_with fail
        refine wp_region_noPanic ?_
        refine wp_region_held_drew (S := fun w' => w'.rangeAt w.heap.size 0 j.cells) (by kernel_rfl) hr3 (fun hHeld => ?_)
        refine wpAnyH_take (i := 0) (oi := ⟨some 55, .move (.tmp 0), _, _, _, none⟩) (v := ?_) rfl (by kernel_rfl) (by kernel_rfl) (by kernel_rfl) (fun _ _ _ h => h) (Or.inl ⟨by rfl, ?_⟩) (by assumption) ?_
        rotate_left
        · (intro w' hSw; go_simp) <;> (with_reducible rfl)
        try simp only [Act.put, List.setIfInBounds_toArray, List.set_cons_zero, List.set_cons_succ]
        refine wpAnyH_take (i := 1) (oi := ⟨some 56, .move (.tmp 5), _, _, _, none⟩) (v := ?_) rfl (by kernel_rfl) (by kernel_rfl) (by kernel_rfl) (fun _ _ _ h => h) (Or.inl ⟨by rfl, ?_⟩) (by assumption) ?_
        rotate_left
        · (intro w' hSw; go_simp) <;> (with_reducible rfl)
        try simp only [Act.put, List.setIfInBounds_toArray, List.set_cons_zero, List.set_cons_succ]
        refine wpAnyH_take (i := 2) (oi := ⟨some 57, .load 46 (.tmp 3), _, _, _, none⟩) (v := _) rfl (by kernel_rfl) (by kernel_rfl) (by kernel_rfl) (fun _ _ _ h => h) (yieldsIf_load_mid (by rfl) 46 (.tmp 3) rfl w.heap.size 0 rfl j.cells _ (fun _ h => h) Try.underlying46 rfl HSZ.out) (by assumption) ?_
        try simp only [Act.put, List.setIfInBounds_toArray, List.set_cons_zero, List.set_cons_succ]
        refine wpAnyH_take (i := 3) (oi := ⟨some 58, .nilCheck (.tmp 55), _, _, _, none⟩) (v := ?_) rfl (by kernel_rfl) (by kernel_rfl) (by kernel_rfl) (fun _ _ _ h => h) (Or.inl ⟨by rfl, ?_⟩) (by assumption) ?_
        rotate_left
        · (intro w' hSw; go_simp) <;> (with_reducible rfl)
        try simp only [Act.put, List.setIfInBounds_toArray, List.set_cons_zero, List.set_cons_succ]
        refine wpAnyH_take (i := 4) (oi := ⟨some 59, .fieldAddr 100 (.tmp 58) 0, _, _, _, none⟩) (v := ?_) rfl (by kernel_rfl) (by kernel_rfl) (by kernel_rfl) (fun _ _ _ h => h) (Or.inl ⟨by rfl, ?_⟩) (by assumption) ?_
        rotate_left
        · (intro w' hSw; go_simp) <;> (with_reducible rfl)
        try simp only [Act.put, List.setIfInBounds_toArray, List.set_cons_zero, List.set_cons_succ]
        refine wpAnyH_take (i := 5) (oi := ⟨some 60, .indexAddr _ (.tmp 59) (.tmp 56), _, _, _, none⟩) (v := ?_) rfl (by kernel_rfl) (by kernel_rfl) (by kernel_rfl) (fun _ _ _ h => h) (Or.inl ⟨by rfl, ?_⟩) (by assumption) ?_
        rotate_left
        · (intro w' hSw; go_simp) <;> (with_reducible rfl)
        try simp only [Act.put, List.setIfInBounds_toArray, List.set_cons_zero, List.set_cons_succ]
        refine wpAnyH_take (i := 6) (oi := ⟨some 61, .fieldAddr 97 (.tmp 60) 0, _, _, _, none⟩) (v := ?_) rfl (by kernel_rfl) (by kernel_rfl) (by kernel_rfl) (fun _ _ _ h => h) (Or.inl ⟨by rfl, ?_⟩) (by assumption) ?_
        rotate_left
        · (intro w' hSw; go_simp) <;> (with_reducible rfl)
        try simp only [Act.put, List.setIfInBounds_toArray, List.set_cons_zero, List.set_cons_succ]
        refine wpAnyH_ready (rs := [7]) (by kernel_rfl) (by simp) ?_
        refine AllReadyH.cons (o := ⟨none, .store 46 (.tmp 61) (.tmp 57), 0, _, _, none⟩) rfl (fun K hK => ?_) ?_
        · rw [if_pos (by rfl)]
          refine wp_store_mid 46 _ _ rfl b (i * 37) j.cells.toArray rfl rfl hth (by rw [List.size_toArray]; exact HSZ.out) (all_oneCell_toArray j.one) ?_
          simp only [Act.put, List.setIfInBounds_toArray, List.set_cons_zero, List.set_cons_succ, List.toList_toArray]
          refine hK.out _ _ hr4 (fun hHeld2 => ?_)
          clear hK K
          refine wpAnyH_done (by kernel_rfl) ?_ _
          refine NoPanic.normal ?_
          obtain ⟨hk3, hk4, hb4, hB4⟩ := H4.out
          generalize w3.drew.setCells b (i * 37) j.cells = w4 at hk4 hb4 hB4
          have hnm : bm ∉ [b] := by simp; exact HX.out.2.1
          have hm4 := (HWb.out.map.keep hk3 hnm).keep hk4 hnm
          obtain ⟨w5, hrun, hm5, ht5⟩ := HPU.out w4.drew hm4 i (by have := HX.out.2.2; omega) (by have := HX.out.2.2; omega) HH0.out
          have hk5 : Keep [bm] w4 w5 := ((Keep.refl [bm] w4).drew).trans (keep_turned ht5)
          have hr4' : w4.drew.rangeAt w.heap.size 0 dc := HRD.out w4.drew _ hB4
          have hc4 : w4.drew.cell? ⟨b, 2406, none⟩ = some (.map (some bm)) := hb4.tail 1
          have hbm' : b ∉ [bm] := by simp; exact fun e => HX.out.2.1 e.symm
          have hbn' : w.heap.size ∉ [bm] := by simp; omega
          have hb5 := hb4.keep hk5 hbm'
          have hB5 := hk5.blk hB4 hbn'
          have hr5 : w5.rangeAt w.heap.size 0 dc := HRD.out w5 _ hB5
          have hc5 : w5.cell? ⟨b, 2406, none⟩ = some (.map (some bm)) := hb5.tail 1
          have hud := Try.underlying44
          have hdl := HDL.out
          have H5 := Lib.hid (And.intro hk3 (And.intro hk4 (And.intro hk5 (And.intro hb5 (And.intro hB5 hm5)))))
          clear hk3 hk4 hb4 hB4 hm4 hm5 ht5 hk5 hb5 hB5 hnm hbm' hbn' hHeld hHeld2
          go_wp2_with fail
          go_region_held3 (fun w' => w'.rangeAt w.heap.size 0 dc ∧ w'.cell? ⟨b, 2406, none⟩ = some (.map (some bm)))
            (first | assumption | (refine ⟨?_, ?_⟩ <;> assumption)) (fail)
          obtain ⟨hk3, hk4, hk5, hb5, hB5, hm5⟩ := H5.out
          have c8 : w5.cell? ⟨b, 2408, none⟩ = some (.int .i64 total) := hb5.tail 3
          have c33 := hB5.get (k := 33) (v := .int .i64 j.size) (by simp [Jar.cells, digC_length, List.getElem?_append])
          have f5 := hb5.2.frozen
          have hw := IntWalk.i64_in (total + j.size) (by omega)
          have HJ := Lib.hid hgj
          clear hk3 hk4 hk5 hb5 hB5 hm5 hrun hr4' hc4 hr5 hc5 hud hdl hgj
          go_wp2_with fail
          go_region
          obtain ⟨hk3, hk4, hk5, hb5, hB5, hm5⟩ := H5.out
          have hk6 : Keep [b] w5 (w5.setCell ⟨b, 2408, none⟩ (.int .i64 (total + j.size))).drew := ((Keep.refl _ _).setCell _ _ (by simp)).drew
          have hb6 : RkBlk (w5.setCell ⟨b, 2408, none⟩ (.int .i64 (total + j.size))).drew b (P.set i { p with jar := j }) (.slice (some ⟨gb, 0, none⟩) n gc) bm budget (total + j.size) pinned := hb5.setTail 3 _ _ _ _ _ _ rfl
          generalize (w5.setCell ⟨b, 2408, none⟩ (.int .i64 (total + j.size))).drew = w6 at hk6 hb6
          have hnm : bm ∉ [b] := by simp; exact HX.out.2.1
          have hm6 := hm5.keep hk6 hnm
          have hgx := HX.out.1
          have hgb : ∀ x, (Value.slice (some ⟨gb, 0, none⟩) n gc).ownBlock = some x → x ≠ b ∧ x ≠ bm := fun x hx => by simp [Value.ownBlock] at hx; subst hx; exact hgx
          have hno : ∀ x, (Value.slice (some ⟨gb, 0, none⟩) n gc).ownBlock = some x → x ∉ [b] := fun x hx => by simp; exact (hgb x hx).1
          have hno' : ∀ x, (Value.slice (some ⟨gb, 0, none⟩) n gc).ownBlock = some x → x ∉ [bm] := fun x hx => by simp; exact (hgb x hx).2
          have ho := own_pop intC_length HWb.out.own
          rw [← HN.out] at ho
          have ho6 := (((ho.keep hk3 hno).keep hk4 hno).keep hk5 hno').keep hk6 hno
          have hm1S : ∀ {A B : World}, ∀ x ∈ [b], x < A.heap.size → x ∈ S := fun x hx _ => by simp at hx; rw [hx]; exact HM.out.1
          have hm2S : ∀ {A B : World}, ∀ x ∈ [bm], x < A.heap.size → x ∈ S := fun x hx _ => by simp at hx; rw [hx]; exact HM.out.2.1
          have hkS : Keep S w w6 := ((((HKb.out.mono (by simp)).trans' hk3 (fun x hx _ => by simp at hx; rw [hx]; exact HM.out.1)).trans' hk4 (fun x hx _ => by simp at hx; rw [hx]; exact HM.out.1)).trans' hk5 (fun x hx _ => by simp at hx; rw [hx]; exact HM.out.2.1)).trans' hk6 (fun x hx _ => by simp at hx; rw [hx]; exact HM.out.1)
          have H6 := Lib.hid (And.intro hb6 (And.intro hm6 (And.intro ho6 (And.intro hkS (And.intro hgb hno)))))
          clear hk3 hk4 hk5 hk6 hb5 hB5 hm5 hb6 hm6 ho ho6 hgb hno hno' hgx hkS hnm c8 c33 f5 hm1S hm2S
          go_wp2_with fail
          refine (rack_link b _ (.slice (some ⟨gb, 0, none⟩) n gc) bm budget (total + j.size) pinned i w6 H6.out.1 (by have := HX.out.2.2; omega) (by have := HP.out.2.2.2.1; rw [this]; exact HP.out.2.2.1)).mono ?_
          rintro e w7 ⟨rfl, hb7, hk7⟩
          go_wp2_with fail
          go_ret
          obtain ⟨hb6, hm6, ho6, hkS, hgb, hno⟩ := H6.out
          obtain ⟨hp, hrp, hprv, hpr, hgood, htot, huse⟩ := HP.out
          have hjz := HJ.out
          refine ⟨rfl, ⟨_, _, bm, total + j.size, pinned, _, _, F', ⟨hb7, ?_, ho6.keep hk7 hno, hrp.1, HX.out.2.1, hgb, ?_, ?_, ?_⟩, ?_, HM.out.1, HM.out.2.1, fun x hx => HM.out.2.2 x hx⟩, hkS.trans' hk7 (fun x hx _ => by simp at hx; rw [hx]; exact HM.out.1)⟩
          · exact hm6.keep hk7 (by simp; exact HX.out.2.1)
          · rw [hrp.2, htot]
            unfold sumL
            simp only [List.map_cons, List.sum_cons]
            omega
          · rw [hrp.2, huse]
            unfold usedL
            simp only [List.map_cons, List.sum_cons, hjz.2.2.2]
            simp
          · rw [hrp.2]
            intro x hx
            rcases List.mem_cons.1 hx with rfl | hx
            · exact ⟨hjz.1, hjz.2.1, hjz.2.2.1, by omega, by omega⟩
            · exact hgood x hx
          · rw [hrp.2, HLL.out]
        · exact AllReadyH.nil
    · have hf := h1.ring.find_yes h0
      rw [← hL] at hf
      have e1 : putE L j = 9 := by rw [e0, hf]; rfl
      have e2 : putL L j = L := by rw [HPL.out, e1]; rfl
      rw [e1, e2]
      have hq := (int_ne' (show ((M j.dig : Nat) : Int) ≠ 0 by omega)).2
      generalize M j.dig = i at HD hq
      have HA1 := Lib.hid (fun w' (k : Keep [] wA w') => HA.out.keep0 k)
      clear hf e0 h0 e1 e2 h1 hL
      go_enter Try.func17, Try.ntmps17
      go_wp2_with (first
        | (refine wpList_load_mid rfl 46 (.tmp 3) rfl w.heap.size 0 (by rfl) j.cells _ HBA.out.rangeAt Try.underlying46 rfl HSZ.out ?_)
        | fail)
      try simp only [Act.put, List.setIfInBounds_toArray, List.set_cons_succ, List.set_cons_zero]
      try go_wp2_with fail
      refine (HIJ.out _).mono ?_
      rintro e w1 ⟨rfl, hk1⟩
      have hW1 := HA1.out w1 hk1
      have c6 : w1.cell? ⟨b, 2406, none⟩ = some (.map (some bm)) := hW1.blk.tail 1
      have hlk : ∀ x, (Instr.lookup 95 (.map (some bm)) (.agg dc.toArray) false).run Try.prog (w1.drewN x) = .ok (.int .i64 (i : Nat)) (w1.drewN x) := fun x => HD.out _ (hW1.map.drewN x)
      have hrg : Hid (∀ w', (∃ x, w' = w1.drewN x) → w'.rangeAt w.heap.size 0 dc) := fun w' ⟨x, hx⟩ => by
        subst hx
        exact HRD.out _ _ ((hk1.blk HBA.out (by simp)).drewN x)
      have HK1 := Lib.hid (HKA.out.trans hk1)
      clear hk1 hW1
      go_wp2_with fail
      refine wp_region_quiet_lit (by kernel_rfl) (by kernel_rfl) ?_
      repeat (go_big_quiet_step (fail))
      refine wpQuiet_load rfl 44 (.tmp 18) rfl w.heap.size 0 (by rfl) dc _ hrg.out Try.underlying44 rfl HDL.out ?_
      simp only [Act.put, List.setIfInBounds_toArray, List.set_cons_succ, List.set_cons_zero]
      repeat (go_big_quiet_step (fail))
      refine wpQuiet_nil ?_
      intro _ hw'
      obtain ⟨nq, hw''⟩ := hw'
      subst hw''
      have kq := Lib.hid (HK1.out.drewN nq)
      generalize w1.drewN nq = w2 at kq
      go_wp2_with fail
      go_ret
      exact ⟨rfl, HH.out.keep0 kq.out, kq.out.mono (by simp)⟩
end Go.Proofs.Ytbfnpoknamajnaa
