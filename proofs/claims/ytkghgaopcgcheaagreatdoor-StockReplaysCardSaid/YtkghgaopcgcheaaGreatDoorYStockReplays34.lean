/- Parts of the proof of StockReplays, in order. No conditions but those that each theorem states. -/
import Derived.Test.YtkghgaopcgcheaaGreatDoorYStockReplays33
set_option maxRecDepth 100000
set_option maxHeartbeats 16000000
set_option linter.unusedSimpArgs false
set_option linter.unusedVariables false
namespace Go.Proofs.YtkghgaopcgcheaaGreatDoor
open Go.RowKit Go.Maps
structure RepS (s : List Tik × List Jar) : Prop where
 t : s.1.length ≤ 64
 r : s.2.length ≤ 64
 n : (s.2.map (·.dig)).Nodup
 g : ∀ x ∈ s.1, tikIn x
 j : ∀ x ∈ s.2, goodIn x
theorem putT_mem {m : Nat} {L : List Tik} {x y : Tik} (h : y ∈ putT m L x) : y = x ∨ y ∈ L := by
 unfold putT at h; rcases (insT_mem x y _).1 h with e | e
 ·exact .inl e
 ·refine .inr ?_
  split at e
  ·split at e
   ·exact (List.mem_filter.1 e).1
   ·exact (List.mem_filter.1 (List.mem_filter.1 e).1).1
  ·exact (List.mem_filter.1 e).1
theorem dropT_mem {r g : List UInt8} {L : List Tik} {y : Tik} (h : y ∈ dropT r g L) : y ∈ L := (List.mem_filter.1 h).1
theorem restL_nodup {L : List Jar} (d : Dig) (h : (L.map (·.dig)).Nodup) : ((restL L d).map (·.dig)).Nodup := h.sublist ((List.filter_sublist).map _)
theorem RepS.put {T : List Tik} {R : List Jar} (h : RepS (T, R)) (j : Jar) (hj : goodIn j) : RepS (T, putL R j) := by
 unfold putL
 split
 case isFalse => exact h
 case isTrue he =>
 unfold putE at he
 split at he
 ·omega
 ·split at he
  ·omega
  ·rename_i hf
   split at he
   ·omega
   ·refine ⟨h.t, by have : R.length ≤ 64 := h.r; simp; omega, ?_, h.g, fun x hx => ?_⟩
    ·show (j.dig :: R.map (·.dig)).Nodup; rw [List.nodup_cons]; refine ⟨fun hm => hf ?_, h.n⟩; obtain ⟨y, hy, hyd⟩ := List.mem_map.1 hm; unfold findL; rw [List.find?_isSome]; exact ⟨y, hy, by simpa using hyd⟩
    ·rcases List.mem_cons.1 hx with rfl | hx
     ·exact hj
     ·exact h.j x hx
theorem RepS.drop {T : List Tik} {R : List Jar} (h : RepS (T, R)) (d : Dig) : RepS (T, dropL R d) := by
 unfold dropL
 split
 ·exact h
 ·split
  ·exact h
  ·exact ⟨h.t, Nat.le_trans (List.length_filter_le _ _) h.r, restL_nodup d h.n, h.g, fun x hx => h.j x (rest_mem hx)⟩
theorem RepS.touch {T : List Tik} {R : List Jar} (h : RepS (T, R)) (d : Dig) : RepS (T, touchL R d) := by
 unfold touchL
 split
 ·exact h
 ·rename_i x hf; obtain ⟨hm, hd⟩ := find_mem hf
  have hlt : (restL R d).length < R.length := by
   unfold restL; refine Nat.lt_of_le_of_ne (List.length_filter_le _ _) (fun e => ?_); have := (List.length_filter_eq_length_iff.1 e) x hm; simp [hd] at this
  refine ⟨h.t, by have : R.length ≤ 64 := h.r; simp; omega, ?_, h.g, fun y hy => ?_⟩
  ·show (x.dig :: (restL R d).map (·.dig)).Nodup; rw [List.nodup_cons]; refine ⟨fun hmm => ?_, restL_nodup d h.n⟩; obtain ⟨y, hy, hyd⟩ := List.mem_map.1 hmm; have := (List.mem_filter.1 hy).2; rw [hyd, hd] at this; simp at this
  ·rcases List.mem_cons.1 hy with rfl | hy
   ·exact h.j _ hm
   ·exact h.j y (rest_mem hy)
theorem RepS.step {s : List Tik × List Jar} (h : RepS s) {x : Slp} (hx : slipIn x) : RepS (repF s x) := by
 unfold repF
 split
 case isFalse => exact h
 case isTrue hg =>
 obtain ⟨T, R⟩ := s; have hT : ∀ T' : List Tik, T'.length ≤ 64 → (∀ y ∈ T', tikIn y) → RepS (T', R) := fun T' h1 h2 => ⟨h1, h.r, h.n, h2, h.j⟩
 have hR : RepS (T, applyR x R) := by
  unfold applyR
  split
  ·exact h.put _ ⟨hx.2.2.2.1, hx.2.2.2.2.1, by show in64 0; unfold in64; omega⟩
  ·split
   ·exact h.drop _
   ·split
    ·exact h.touch _
    ·exact h
 refine ⟨?_, hR.r, hR.n, ?_, hR.j⟩
 ·show (applyT x T).length ≤ 64; unfold applyT
  split
  ·split
   ·exact put_len h.t (by decide) _
   ·exact h.t
  ·split
   ·exact Nat.le_trans (drop_len _ _ _) h.t
   ·exact h.t
 ·show ∀ y ∈ applyT x T, tikIn y
  intro y hy; unfold applyT at hy
  split at hy
  ·split at hy
   ·rcases putT_mem hy with rfl | e
    ·exact told_in hx
    ·exact h.g y e
   ·exact h.g y hy
  ·split at hy
   ·exact h.g y (dropT_mem hy)
   ·exact h.g y hy
theorem rep_S (L : List Slp) (h : ∀ x ∈ L, slipIn x) : RepS (rep L) := by
 have : ∀ (L : List Slp) (s : List Tik × List Jar), RepS s → (∀ x ∈ L, slipIn x) → RepS (L.foldl repF s) := by
  intro L
  induction L with
  | nil => intro s hs _; exact hs
  | cons x r ih => intro s hs hx; exact ih _ (hs.step (hx x (by simp))) (fun y hy => hx y (by simp [hy]))
 exact this L _ ⟨by simp, by simp, by simp, by simp, by simp⟩ h
theorem ref22_Replay (L : List Slp) (v : Value) (w : World) (hs : Sl Slp.cells 38 w v L) (hin : ∀ x ∈ L, slipIn x) (hl : L.length ≤ 1000000) :
 Calls Tryz.prog 7 #[v, .int .i64 0] w fun e w' => ∃ u tv rv, e = .returned (.pointer (some ⟨u, 0, none⟩)) ∧ S22 w' u tv rv (rep L).1 (rep L).2 0 ∧ Keep [] w w' := by
 obtain ⟨aa, ca, rfl, hcap⟩ := hs.shape; have HS := Lib.hid hs; have HIN := Lib.hid hin; obtain ⟨u, hu⟩ : ∃ n, w.heap.size = n := ⟨_, rfl⟩
 have b0 := Blk.newA w #[.slice none 0 0, .int .i64 0, .slice none 0 0, .int .i64 0] 40; have k0 := (Keep.refl [] w).alloc (.cells #[.slice none 0 0, .int .i64 0, .slice none 0 0, .int .i64 0] 40); rw [hu] at b0; generalize hw0 : w.alloc (.cells #[.slice none 0 0, .int .i64 0, .slice none 0 0, .int .i64 0] 40) = w0 at b0 k0; have g1 := b0.get (k := 1) rfl; have f1 := b0.frozen 1; have s1 := b0.set 1 (.int .i64 64); have g3 := s1.get (k := 3) rfl; have f3 := s1.frozen 3; have s3 := s1.set 3 (.int .i64 0); have k3 : Keep [] w ((w0.setCell ⟨u, 1, none⟩ (.int .i64 64)).setCell ⟨u, 3, none⟩ (.int .i64 0)) := (k0.setCell _ _ (fun h => by simp at h; omega)).setCell _ _ (fun h => by simp at h; omega)
 have HB := Lib.hid (show S22 ((w0.setCell ⟨u, 1, none⟩ (.int .i64 64)).setCell ⟨u, 3, none⟩ (.int .i64 0)) u (.slice none 0 0) (.slice none 0 0) [] [] 0 ∧ Keep [] w ((w0.setCell ⟨u, 1, none⟩ (.int .i64 64)).setCell ⟨u, 3, none⟩ (.int .i64 0)) from
  ⟨⟨⟨s3, Own.nil _ _ _ _ _, by simp [Value.ownBlock]⟩, ⟨s3, Own.nil _ _ _ _ _, by simp [Value.ownBlock]⟩⟩, k3⟩)
 have HW0 := Lib.hid hw0; have HU := Lib.hid hu; clear hs hin hcap b0 k0 s1 s3 k3 hw0 hu; go_enter Tryz.func7, Tryz.ntmps7
 go_upto_region 2 with fail
 (try simp only [HU.out]); rw [HW0.out]; go_wp2_with fail; generalize (w0.setCell ⟨u, 1, none⟩ (.int .i64 64)).setCell ⟨u, 3, none⟩ (.int .i64 0) = w1 at HB ⊢; clear g1 f1 g3 f3 HW0
 go_loopg [6] L.length (fun g i wr => ∃ (k : Nat) (tv rv : Value), i = .int .i64 (k : Nat) ∧ k ≤ L.length ∧ g = L.length - k ∧ Hid (S22 wr u tv rv (rep (L.take k)).1 (rep (L.take k)).2 0 ∧ Keep [u] w1 wr))
 case atStart => exact ⟨0, _, _, rfl, Nat.zero_le _, rfl, Lib.hid ⟨HB.out.1, Keep.refl _ _⟩⟩
 case round =>
  obtain ⟨k, tv, rv, rfl, hk, hgk, HI⟩ := hrel; have hKr : Keep [] w wr := HB.out.2.trans' HI.out.2 (fun x hx hl => by simp at hx; have := HU.out; omega); by_cases hlt : k < L.length
  ·obtain ⟨x, hx⟩ : ∃ x, L[k]? = some x := ⟨_, List.getElem?_eq_getElem hlt⟩
   obtain ⟨ba, oa, ca', hva, hrg⟩ := (HS.out.keep Slp.cells_length (by omega) HS.out hKr (by simp) (Nat.le_refl _)).rng Slp.cells_length hx; cases hva; have hxi := HIN.out x (List.mem_of_getElem? hx); have hrs := rep_S (L.take k) (fun y hy => HIN.out y (List.mem_of_mem_take hy)); obtain ⟨XC, hXC⟩ : ∃ z, x.cells = z := ⟨_, rfl⟩
   have HXL := Lib.hid (show XC.length = 38 by rw [← hXC]; exact Slp.cells_length _); have HAP := Lib.hid (ref22_Apply wr HI.out.1 hrs.t hrs.r hrs.n x XC hXC hxi); rw [hXC] at hrg; have HR := Lib.hid hrg; have HRT := Lib.hid (rep_take hx); have f1 : decide ((k : Int) < (L.length : Nat)) = true := decide_eq_true (by omega); have f1n : decide (k < L.length) = true := decide_eq_true hlt; have wk := IntWalk.i64_in ((k : Int) + 1) (by omega); clear hrg hXC hx hxi hrs hKr
   go_wp2_with (first | ((with_reducible refine gL 28 27 ?_); refine gl ba (oa + k * 38) XC HR.out (by rw [HXL.out]; kernel_rfl) ?_; try simp only [sq]) | fail); refine HAP.out.mono ?_; rintro e w2 ⟨rfl, tv2, rv2, s2, k2⟩; have H2 := Lib.hid (show S22 w2 u tv2 rv2 (rep (L.take (k + 1))).1 (rep (L.take (k + 1))).2 0 ∧ Keep [u] w1 w2 from ⟨by rw [HRT.out]; exact s2, HI.out.2.trans k2⟩); clear s2 k2 HAP; go_wp2_with fail
   go_roundg (L.length - (k + 1))
   case measure => omega
   case rel => exact ⟨k + 1, tv2, rv2, by go_num, by omega, rfl, H2⟩
  ·have hke : k = L.length := by omega
   have f1 : decide ((k : Int) < (L.length : Nat)) = false := decide_eq_false (by omega); subst hke; have HK := Lib.hid hKr; go_wp2_with fail; go_ret; exact ⟨u, tv, rv, rfl, by have := HI.out.1; rwa [List.take_length] at this, HK.out⟩
theorem stockReplays_walk (v : Value) (L : List Slp) (w : World) (hg : Glob w) (hs : Sl Slp.cells 38 w v L) (hin : ∀ x ∈ L, slipIn x) :
 Calls Tryz.prog 3 #[v] w fun e w' => e = .returned (.bool true) ∧ Keep [] w w' := by
 have HAW := Lib.hid (awake22 w hg); obtain ⟨aa, ca, rfl, hcap⟩ := hs.shape; have hcap' : L.length ≤ 9223372036854775807 := hcap; have HS := Lib.hid (fun w' (k : Keep [] w w') => hs.keep Slp.cells_length (by omega) hs k (by simp) (Nat.le_refl _)); have HIN := Lib.hid hin; clear hs hin hcap hg; go_enter Tryz.func3, Tryz.ntmps3; go_wp2_with fail; refine HAW.out.mono ?_; rintro e w1 ⟨rfl, k1⟩; have K1 := Lib.hid k1; clear k1 HAW; by_cases h200 : 200 < L.length
 ·have q1 : decide ((L.length : Int) > 200) = true := decide_eq_true (by omega); go_wp2_with fail; go_ret; exact ⟨rfl, K1.out⟩
 have q1 : decide ((L.length : Int) > 200) = false := decide_eq_false (by omega); go_wp2_with fail; clear q1
 go_loopg [3] L.length (fun g i wr => ∃ k : Nat, i = .int .i64 (k : Nat) ∧ k ≤ L.length ∧ g = L.length - k ∧ Hid (w1 = wr))
 case atStart => exact ⟨0, rfl, Nat.zero_le _, rfl, Lib.hid rfl⟩
 case round =>
  obtain ⟨k, rfl, hk, hgk, HI⟩ := hrel; have hI := HI.out; subst hI; clear HI; by_cases hlt : k < L.length
  ·obtain ⟨x, hx⟩ : ∃ x, L[k]? = some x := ⟨_, List.getElem?_eq_getElem hlt⟩
   obtain ⟨ba, oa, ca', hva, hrg⟩ := (HS.out w1 K1.out).rng Slp.cells_length hx; cases hva; have hxi := HIN.out x (List.mem_of_getElem? hx); have hr := slp_row x; have c1 := hrg 1 _ hr.2.1; have c2 := hrg 2 _ hr.2.2.1; have c35 := hrg 35 _ hr.2.2.2.2.1; have s1 := S_size x.repo; have s2 := S_size x.tag; have s3 := S_size x.typ; have l1 : x.repo.length ≤ 9223372036854775807 := hxi.2.1; have l2 : x.tag.length ≤ 9223372036854775807 := hxi.2.2.1; have l3 : x.typ.length ≤ 9223372036854775807 := hxi.2.2.2.1; have f1 : decide ((k : Int) < (L.length : Nat)) = true := decide_eq_true (by omega); have f1n : decide (k < L.length) = true := decide_eq_true hlt; have wk := IntWalk.i64_in ((k : Int) + 1) (by omega); clear hrg hr hx hxi; by_cases p1 : 500 < x.repo.length
   ·have r1 : decide ((x.repo.length : Int) > 500) = true := decide_eq_true (by omega); go_wp2_with fail; go_ret; exact ⟨rfl, K1.out⟩
   have r1 : decide ((x.repo.length : Int) > 500) = false := decide_eq_false (by omega); by_cases p2 : 500 < x.tag.length
   ·have r2 : decide ((x.tag.length : Int) > 500) = true := decide_eq_true (by omega); go_wp2_with fail; go_ret; exact ⟨rfl, K1.out⟩
   have r2 : decide ((x.tag.length : Int) > 500) = false := decide_eq_false (by omega); by_cases p3 : 500 < x.typ.length
   ·have r3 : decide ((x.typ.length : Int) > 500) = true := decide_eq_true (by omega); go_wp2_with fail; go_ret; exact ⟨rfl, K1.out⟩
   have r3 : decide ((x.typ.length : Int) > 500) = false := decide_eq_false (by omega); go_wp2_with fail
   go_roundg (L.length - (k + 1))
   case measure => omega
   case rel => exact ⟨k + 1, by go_num, by omega, rfl, Lib.hid rfl⟩
  ·have hke : k = L.length := by omega
   have f1 : decide ((k : Int) < (L.length : Nat)) = false := decide_eq_false (by omega); subst hke; have HRE := Lib.hid (stock_Replay L _ w1 (HS.out w1 K1.out) HIN.out (by omega)); go_wp2_with fail; refine HRE.out.mono ?_; rintro e w2 ⟨v1, v2, rfl, o1, o2, k2⟩; obtain ⟨a1, c1, rfl, _⟩ := o1.shape; obtain ⟨a2, c2, rfl, _⟩ := o2.shape; have H2 := Lib.hid (And.intro o1 (And.intro o2 (K1.out.trans k2))); have HRR := Lib.hid (ref22_Replay L _ w2 (HS.out w2 (K1.out.trans k2)) HIN.out (by omega)); clear o1 o2 k2 HRE; go_wp2_with fail; refine HRR.out.mono ?_; rintro e w3 ⟨u, tv, rv, rfl, s3, k3⟩; have H3 := Lib.hid (And.intro s3 k3); clear s3 k3 HRR; have hrs := rep_S L HIN.out; have d0 := H3.out.1.dt.blk.get (k := 0) rfl; have HSA := Lib.hid (ref20_Same _ tv (rep L).1 w3 ((H2.out.1.lower (Nat.zero_le _)).keep0 H3.out.2) H3.out.1.dt.own hrs.g); go_wp2_with fail; refine HSA.out.mono ?_; rintro e w4 ⟨rfl, k4⟩; have K4 := Lib.hid k4; have d2 := (H3.out.1.dt.keep0 k4).blk.get (k := 2) rfl; have HSB := Lib.hid (ref_Same21 _ rv (rep L).2 w4 (((H2.out.2.1.lower (Nat.zero_le _)).keep0 H3.out.2).keep0 k4) (H3.out.1.dq.own.keep0 k4) hrs.j); clear k4 d0 HSA hrs; go_wp2_with fail; refine HSB.out.mono ?_; rintro e w5 ⟨rfl, k5⟩; have K5 := Lib.hid (H2.out.2.2.trans (H3.out.2.trans (K4.out.trans k5))); clear k5 d2 HSB; go_wp2_with fail; go_ret; exact ⟨rfl, K5.out⟩
open Go.ChangeShapes Go.WideShapes Go.ChangeAt Go.RowKit
def Fits {H : Type} (P : Program) (t : TypeId) (d : DataW H) : Prop := (d.weights P t).all (fun k => decide (k ≤ reachBytes)) = true
theorem fits_each {H : Type} {P : Program} : ∀ {ts : List TypeId} {ds : List (DataW H)}, (DataW.weightsEach P ts ds).all (fun k => decide (k ≤ reachBytes)) = true → ∀ (j : Nat) (t : TypeId) (d : DataW H), ts[j]? = some t → ds[j]? = some d → Fits P t d
 | [], _, _, _, _, _, h, _ => by simp at h
 | _ :: _, [], _, _, _, _, _, h => by simp at h
 | t :: ts, d :: ds, h, j, t', d', h1, h2 => by
   rw [DataW.weightsEach, List.all_append, Bool.and_eq_true] at h
   cases j with
   | zero =>
     simp at h1 h2; subst h1 h2; exact h.1
   | succ j => exact fits_each h.2 j t' d' (by simpa using h1) (by simpa using h2)
theorem fits_all {H : Type} {P : Program} {e : TypeId} : ∀ {ds : List (DataW H)}, (DataW.weightsAll P e ds).all (fun k => decide (k ≤ reachBytes)) = true → ∀ d ∈ ds, Fits P e d
 | [], _, _, h => by cases h
 | d :: ds, h, x, hx => by
   rw [DataW.weightsAll, List.all_append, Bool.and_eq_true] at h; rcases List.mem_cons.1 hx with rfl | hx
   ·exact h.1
   ·exact fits_all h.2 x hx
theorem fits_slice {H : Type} {P : Program} {t e : TypeId} {es rs : List (DataW H)} (ht : P.underlying t = some (.slice e)) (h : Fits P t (.slice es rs)) : ∀ d ∈ es, Fits P e d := by
 unfold Fits at h; rw [DataW.weights, ht] at h; simp only [List.all_cons, List.all_append, Bool.and_eq_true] at h; exact fits_all h.2.1
theorem fits_string {H : Type} {P : Program} {t : TypeId} {l : List UInt8} (h : Fits (H := H) P t (.lit (.string l))) : l.length ≤ 140737488351232 := by
 unfold Fits at h; rw [DataW.weights] at h; simp only [List.all_cons, List.all_nil, Bool.and_true, decide_eq_true_eq] at h; unfold reachBytes at h; omega
theorem read_sliceW {H : Type} {enc : TypeId × Value → H} {P : Program} {w : World} {base : Nat} {spare : Nat → Bool} {held : Bool} {α : Type} [Inhabited α] {en : α → List Value} {n : Nat} (hn : ∀ x, (en x).length = n) (h0 : 0 < n) (good : α → Prop)
 {t e : TypeId} {v : Value} {d : DataW H} {ps : List MemPlace} (ht : P.underlying t = some (.slice e)) (hc : P.cellsOf e = n) (hfit : Fits P t d)
 (one : ∀ (m : Nat) (cs : List Value) (x : DataW H × List MemPlace), DataW.trod enc P w base spare held m e cs = some x → Fits P e x.1 → ∃ a, cs = en a ∧ good a)
 (h : DataW.Trod enc P w base spare held t v d ps) (hv : ∃ a len cap, v = .slice a len cap) : ∃ L : List α, Sl en n w v L ∧ ∀ x ∈ L, good x := by
 obtain ⟨fuel, hf⟩ := h; obtain ⟨a', len', cap', rfl⟩ := hv; rcases Deep.open_slice ht hf with ⟨hcs, _⟩ | ⟨a, len, cap, m, q, D, Pl, hcs, _, hl, hm, hmm, hdx, hx⟩
 ·simp [Value.cells] at hcs; obtain ⟨rfl, rfl, rfl⟩ := hcs; exact ⟨[], .inl ⟨Option.none, 0, rfl, Nat.zero_le _, rfl⟩, by simp⟩
 ·simp [Value.cells] at hcs; obtain ⟨rfl, rfl, rfl⟩ := hcs; have hlm : len' ≤ m := by rw [hmm]; split <;> omega
  have hd : d = .slice ((List.range len').map D) ((List.range (m - len')).map fun j => D (len' + j)) := by
   have := congrArg Prod.fst hdx; exact this
  rw [hd] at hfit; have hfe := fits_slice ht hfit
  obtain ⟨f, hfx⟩ := Deep.choose_lt (α := α) (n := len') (p := fun i y => good y ∧ ∀ k, k < n → w.cell? ((a.add (i * n)).add k) = (en y)[k]?) (fun i hi => by
   obtain ⟨cs', h1, h2⟩ := hx i (by omega); rw [hc] at h1; obtain ⟨y, rfl, hg⟩ := one _ _ _ h2 (hfe (D i) (List.mem_map.2 ⟨i, List.mem_range.2 hi, rfl⟩)); exact ⟨y, hg, (World.cells?_some h1).2.2⟩)
  by_cases hz : len' = 0
  ·subst hz; exact ⟨[], .inl ⟨_, _, rfl, hm, rfl⟩, by simp⟩
  ·obtain ⟨b, off, spot⟩ := a
   have hs : spot = Option.none := by
    have h1 := (hfx 0 (by omega)).2 0 h0; simp only [Nat.zero_mul, Addr.add, if_true] at h1
    cases spot with
    | none => rfl
    | some s =>
      have hlt : 0 < (en (f 0)).length := by rw [hn]; exact h0
      rw [List.getElem?_eq_getElem hlt] at h1; unfold World.cell? at h1
      split at h1 <;> simp at h1
   subst hs; refine ⟨(List.range len').map f, .inr ⟨b, off, cap', by simp, by simpa using hl, hm, ?_⟩, ?_⟩
   ·intro i x hi k hk; simp [List.getElem?_map] at hi; obtain ⟨j, hj, rfl⟩ := hi; have hj' := List.getElem?_eq_some_iff.1 hj; obtain ⟨hlt, he⟩ := hj'; simp at hlt he; subst he; have := (hfx i hlt).2 k hk; rw [Deep.add_add] at this; rw [← this]; unfold Addr.add
    split
    ·rename_i hzz; rw [Nat.add_assoc, hzz]; rfl
    ·simp [Nat.add_assoc]
   ·intro x hx'; simp at hx'; obtain ⟨i, hi, rfl⟩ := hx'; exact (hfx i hi).1
section
variable {H : Type} {enc : TypeId × Value → H} {w : World} {base : Nat} {spare : Nat → Bool} {held : Bool}
theorem take_oneK {cs : List Value} {i : Nat} {v : Value} (h : (cs.drop i).take 1 = [v]) : cs[i]? = some v := by
 have := congrArg (fun l => l[0]?) h; simpa [List.getElem?_drop] using this
theorem int_cells : Tryz.prog.cellsOf 3 = 1 := by kernel_rfl
theorem dig_cells : Tryz.prog.cellsOf 25 = 32 := by kernel_rfl
theorem read_digK (fuel : Nat) (cs : List Value) (x : DataW H × List MemPlace) (h : DataW.trod enc Tryz.prog w base spare held fuel 25 cs = some x) : ∃ d : Dig, cs = digC d := by
 obtain ⟨xs, m, _, _, hl, hn, hx⟩ := DataW.trod_array Tryz.underlying25 h; have h1 : Tryz.prog.cellsOf 5 = 1 := by kernel_rfl
 rw [dig_cells] at hl; rw [h1] at hx
 have hb : ∀ i, i < 32 → ∃ b : UInt8, cs[i]? = some (.int .u8 (b.toNat : Nat)) := fun i hi => by
  have := hx i hi; rw [Nat.mul_one] at this; obtain ⟨y, hy⟩ : ∃ y, xs[i]? = some y := ⟨_, List.getElem?_eq_getElem (by omega)⟩
  rw [hy] at this; obtain ⟨n, hn, _, hw⟩ := DataW.trod_int Tryz.underlying5 this; have hw' : 0 ≤ n ∧ n < 256 := by simp [Lit.wf, IntKind.min, IntKind.max, IntKind.signed, IntKind.bits] at hw; omega
  refine ⟨UInt8.ofNat n.toNat, ?_⟩; rw [take_oneK hn]; have : ((UInt8.ofNat n.toNat).toNat : Int) = n := by rw [UInt8.toNat_ofNat']; omega
  rw [this]
 let f : Nat → UInt8 := fun i => if h : i < 32 then (hb i h).choose else 0
 refine ⟨⟨(List.range 32).map f, by simp⟩, ?_⟩; apply List.ext_getElem?; intro i; by_cases hi : i < 32
 ·have := (hb i hi).choose_spec; rw [this]; simp [digC, hi, f]
 ·rw [List.getElem?_eq_none (by omega), List.getElem?_eq_none (by rw [digC_length]; omega)]
theorem trod_fieldsW {P : Program} {t : TypeId} {fs : Array Field} {fuel : Nat} {cs : List Value} {x : DataW H × List MemPlace} (ht : P.underlying t = some (.struct fs)) (h : DataW.trod enc P w base spare held fuel t cs = some x) (hf : Fits P t x.1) :
 cs.length = P.cellsOf t ∧ ∃ n, ∀ (i : Nat) (f : Field), fs[i]? = some f → ∃ y, DataW.trod enc P w base spare held n f.type ((cs.drop f.offset).take (P.cellsOf f.type)) = some y ∧ Fits P f.type y.1 := by
 obtain ⟨xs, n, _, rfl, hl, hlen, hx⟩ := DataW.trod_struct ht h; refine ⟨hl, n, fun i f hi => ?_⟩
 have hlt : i < xs.length := by
  rw [hlen]; rcases Nat.lt_or_ge i fs.size with h' | h'
  ·exact h'
  ·simp [Array.getElem?_eq_none h'] at hi
 refine ⟨xs[i], (hx i f hi).trans (List.getElem?_eq_getElem hlt), ?_⟩
 have hw : (DataW.weightsEach P (fs.toList.map (·.type)) (xs.map (·.1))).all (fun k => decide (k ≤ reachBytes)) = true := by
  unfold Fits at hf; dsimp only at hf; rw [DataW.weights, ht] at hf; exact hf
 exact fits_each hw i f.type xs[i].1 (by rw [List.getElem?_map, Array.getElem?_toList, hi]; rfl) (by rw [List.getElem?_map, List.getElem?_eq_getElem hlt]; rfl)
theorem field_stringW {P : Program} {t : TypeId} {n o : Nat} {cs : List Value} {y : DataW H × List MemPlace} (ht : P.underlying t = some .string) (hc : P.cellsOf t = 1) (h : DataW.trod enc P w base spare held n t ((cs.drop o).take (P.cellsOf t)) = some y ∧ Fits P t y.1) :
 ∃ v, cs[o]? = some (.string v) ∧ v.data.toList.length ≤ 140737488351232 := by
 obtain ⟨v, hv, hd, hm⟩ := DataW.trod_string ht h.1; have hf := h.2; rw [hd] at hf; rw [hc] at hv; exact ⟨v, take_drop_one hv, fits_string hf⟩
theorem dig_part {cs : List Value} {o : Nat} {d : Dig} (h : (cs.drop o).take (Tryz.prog.cellsOf 25) = digC d) {i : Nat} (hi : i < 32) : cs[o + i]? = (digC d)[i]? := by
 rw [dig_cells] at h; rw [← h, List.getElem?_take_of_lt hi, List.getElem?_drop]
instance : Inhabited Slp := ⟨⟨0, [], [], dig00, [], 0, 0⟩⟩
theorem slp_cells : Tryz.prog.cellsOf 27 = 38 := by kernel_rfl
theorem read_slp (m : Nat) (cs : List Value) (x : DataW H × List MemPlace) (h : DataW.trod enc Tryz.prog w base spare held m 27 cs = some x) (hfit : Fits Tryz.prog 27 x.1) : ∃ k : Slp, cs = k.cells ∧ slipIn k := by
 obtain ⟨hl, n, hf⟩ := trod_fieldsW Tryz.underlying27 h hfit; have hc : Tryz.prog.cellsOf 27 = 38 := by kernel_rfl
 rw [hc] at hl; obtain ⟨y0, h0⟩ := hf 0 _ rfl; obtain ⟨y1, h1⟩ := hf 1 _ rfl; obtain ⟨y2, h2⟩ := hf 2 _ rfl; obtain ⟨y3, h3⟩ := hf 3 _ rfl; obtain ⟨y4, h4⟩ := hf 4 _ rfl; obtain ⟨y5, h5⟩ := hf 5 _ rfl; obtain ⟨y6, h6⟩ := hf 6 _ rfl; obtain ⟨v0, c0, w0⟩ := field_int Tryz.underlying3 int_cells h0.1; obtain ⟨v1, c1, w1⟩ := field_stringW Tryz.underlying9 str_cells h1; obtain ⟨v2, c2, w2⟩ := field_stringW Tryz.underlying9 str_cells h2; have h3' : DataW.trod enc Tryz.prog w base spare held n 25 ((cs.drop 3).take (Tryz.prog.cellsOf 25)) = some y3 := h3.1; obtain ⟨d, hd⟩ := read_digK _ _ _ h3'; obtain ⟨v4, c4, w4⟩ := field_stringW Tryz.underlying9 str_cells h4; obtain ⟨v5, c5, w5⟩ := field_int Tryz.underlying3 int_cells h5.1; obtain ⟨v6, c6, w6⟩ := field_int Tryz.underlying3 int_cells h6.1; have hm : 140737488351232 ≤ maxLen := by decide
 refine ⟨⟨v0, v1.data.toList, v2.data.toList, d, v4.data.toList, v5, v6⟩, list_eq_of hl (Slp.cells_length _) ?_, in64_of w0, Nat.le_trans w1 hm, Nat.le_trans w2 hm, Nat.le_trans w4 hm, in64_of w5, in64_of w6⟩; intro i hi; have e : ∀ k : Slp, k.cells = [.int .i64 k.kind, .string (S k.repo), .string (S k.tag)] ++ (digC k.dig ++ [.string (S k.typ), .int .i64 k.size, .int .i64 k.tick]) := fun k => by simp [Slp.cells]
 rw [e]; simp only [S_of]; by_cases h3 : i < 3
 ·rw [List.getElem?_append_left (by simpa using h3)]
  match i, h3 with
  | 0, _ => exact c0
  | 1, _ => exact c1
  | 2, _ => exact c2
 ·rw [List.getElem?_append_right (by simp; omega)]; show cs[i]? = _; simp only [List.length_cons, List.length_nil]; by_cases h35 : i < 35
  ·rw [List.getElem?_append_left (by rw [digC_length]; omega)]; have := dig_part hd (i := i - 3) (by omega); rw [show 3 + (i - 3) = i by omega] at this; exact this
  ·rw [List.getElem?_append_right (by rw [digC_length]; omega), digC_length]; have h9 : i = 35 ∨ i = 36 ∨ i = 37 := by omega
   have c4' : cs[35]? = some (.string v4) := c4; have c5' : cs[36]? = some (.int .i64 v5) := c5; have c6' : cs[37]? = some (.int .i64 v6) := c6; rcases h9 with rfl | rfl | rfl
   ·rw [c4']; rfl
   ·rw [c5']; rfl
   ·rw [c6']; rfl
end
open Go.RowKit Go.Maps
theorem Glob.laid {W : World} {laid : List (String × DataW Unit)} (h : laidMet Tryz.prog laid W) (m1 : ("manciple/crc.nibbles", Lib.tabData .u32 nibT) ∈ laid) (m2 : ("manciple/sha.start", Lib.tabData .u32 shaStart) ∈ laid)
 (m3 : ("manciple/sha.keys", Lib.tabData .u32 shaKeys) ∈ laid) (m4 : ("internal/strconv.uint64pow10", Lib.tabData .u64 Lib.pow10Tab) ∈ laid) : Glob W := by
 have h0 := h; obtain ⟨ps, h, _⟩ := h
 exact ⟨laid_at (g := 6) (t := 314) (e := 161) (n := 16) (by kernel_rfl) rfl (by kernel_rfl) (by kernel_rfl) (by kernel_rfl) (by kernel_rfl) m1 h,
  ⟨laid_at (g := 0) (t := 162) (e := 161) (n := 8) (by kernel_rfl) rfl (by kernel_rfl) (by kernel_rfl) (by kernel_rfl) (by kernel_rfl) m2 h,
    laid_at (g := 1) (t := 220) (e := 161) (n := 64) (by kernel_rfl) rfl (by kernel_rfl) (by kernel_rfl) (by kernel_rfl) (by kernel_rfl) m3 h⟩, P10.laid h0 m4⟩
end Go.Proofs.YtkghgaopcgcheaaGreatDoor
