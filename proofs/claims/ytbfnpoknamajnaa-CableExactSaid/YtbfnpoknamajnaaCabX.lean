/- The statement CableExact: its function answers true for every input. No conditions. -/
import Derived.Test.YtbfnpoknamajnaaCabE
import Derived.Test.YtbfnpoknamajnaaCabO
import Derived.Deep.Cut
import Derived.Deep.CutRange
import Derived.Deep.CutBlock
import Derived.Deep.DeepCutAuto
import Derived.Deep.LoopGhost
import Derived.Deep.RegionHeld3
import Derived.Deep.QuietTactic
import Derived.BigQuiet
namespace Go.Proofs.Ytbfnpoknamajnaa
open Go.RowKit Go.ChangeShapes Go.WideShapes

set_option maxRecDepth 100000 in
set_option maxHeartbeats 1000000 in
theorem cableExact_bad (n : Int) (v : Value) (w : World) (hn : n < 1 ∨ 8 < n) :
    Calls Try.prog 5 #[.int .i64 n, v] w fun e w' => e = .returned (.bool true) ∧ Keep [] w w' := by
  rcases hn with hn | hn
  · go_enter Try.func5, Try.ntmps5
    go_wp2_with fail
    refine (cable_awake _).mono ?_
    rintro e w0 ⟨rfl, hk0⟩
    go_wp2_with fail
    refine (cable_New_bad n _ (.inl hn)).mono ?_
    rintro e w1 ⟨rfl, rfl⟩
    go_wp2_with fail
    go_ret
    exact ⟨rfl, hk0⟩
  · have hn' : ¬ n < 1 := by omega
    go_enter Try.func5, Try.ntmps5
    go_wp2_with fail
    refine (cable_awake _).mono ?_
    rintro e w0 ⟨rfl, hk0⟩
    go_wp2_with fail
    refine (cable_New_bad n _ (.inr hn)).mono ?_
    rintro e w1 ⟨rfl, rfl⟩
    go_wp2_with fail
    go_ret
    exact ⟨rfl, hk0⟩

theorem Cabs.le_heap {w : World} {b bl : Nat} {L : List Cab} (h : Cabs w b bl L) : b < w.heap.size ∧ bl < w.heap.size := ⟨h.head.lt, h.body.lt⟩
theorem Rcabs.le_heap {w : World} {b bl : Nat} {L : List Rcab} (h : Rcabs w b bl L) : b < w.heap.size ∧ bl < w.heap.size := ⟨h.head.lt, h.body.lt⟩
theorem Rcabs.alloc {w : World} {b bl : Nat} {L : List Rcab} (h : Rcabs w b bl L) (o : Obj) : Rcabs (w.alloc o) b bl L := ⟨h.head.alloc o, h.body.alloc o, h.ne, h.le⟩

theorem Rcabs.drew {w : World} {b bl : Nat} {L : List Rcab} (h : Rcabs w b bl L) : Rcabs w.drew b bl L := ⟨h.head, h.body, h.ne, h.le⟩
theorem xcells {w : World} {b : Nat} {T : TypeId} {x : Act23} (h : Blk w b T x.cells) : w.cell? ⟨b, 0, none⟩ = some (.int .i64 x.kind) ∧ w.cell? ⟨b, 1, none⟩ = some (.int .i64 x.i) ∧ w.cell? ⟨b, 2, none⟩ = some (.int .i64 x.n) ∧ w.cell? ⟨b, 3, none⟩ = some (.string x.s) :=
  ⟨h.get rfl, h.get rfl, h.get rfl, h.get rfl⟩
theorem at?_isSome (L : List Cab) (i : Int) : (at? L i).isSome = decide (0 ≤ i ∧ i < L.length) := by
  cases h : at? L i with
  | none => have := at?_none h; simp; omega
  | some c => have := at?_some h; simp [this.1, this.2.1]

theorem Cabs.of_heap {w w' : World} {b bl : Nat} {L : List Cab} (h : Cabs w b bl L) (e : w'.heap = w.heap) : Cabs w' b bl L := ⟨by unfold Blk; rw [e]; exact h.head, by unfold Blk; rw [e]; exact h.body, h.ne, h.le⟩
theorem Rcabs.of_heap {w w' : World} {b bl : Nat} {L : List Rcab} (h : Rcabs w b bl L) (e : w'.heap = w.heap) : Rcabs w' b bl L := ⟨by unfold Blk; rw [e]; exact h.head, by unfold Blk; rw [e]; exact h.body, h.ne, h.le⟩
theorem below_of {B : Nat} {w a c : World} (h : Below B w a) (e1 : c.heap = a.heap) (e2 : c.os = a.os) (e3 : c.tape = a.tape) (e4 : c.output = a.output) : Below B w c :=
  ⟨e2.trans h.os, e3.trans h.tape, e4.trans h.output, by rw [e1]; exact h.size, fun k hk => by rw [e1]; exact h.block k hk⟩
theorem Rcabs.setOther {w : World} {b bl : Nat} {L : List Rcab} (h : Rcabs w b bl L) {a : Addr} (h1 : b ≠ a.block) (h2 : bl ≠ a.block) (v : Value) : Rcabs (w.setCell a v) b bl L := ⟨h.head.setOther h1 v, h.body.setOther h2 v, h.ne, h.le⟩

/-- what holds between two acts -/
structure Both (w0 w : World) (b bl d dl m t : Nat) (L : List Cab) : Prop where
  len : L.length = m
  good : ∀ c ∈ L, c.good t
  cabs : Cabs w b bl L
  rcabs : Rcabs w d dl (L.map Cab.toR)
  below : Below w0.heap.size w0 w

theorem Both.alloc {w0 w : World} {b bl d dl m t : Nat} {L : List Cab} (h : Both w0 w b bl d dl m t L) (o : Obj) : Both w0 (w.alloc o) b bl d dl m t L :=
  ⟨h.len, h.good, h.cabs.alloc o, h.rcabs.alloc o, h.below.alloc h.below.size o⟩

theorem Both.keep {w0 w w' : World} {b bl d dl m t : Nat} {L : List Cab} (h : Both w0 w b bl d dl m t L) (k : Keep [] w w') : Both w0 w' b bl d dl m t L :=
  ⟨h.len, h.good, h.cabs.keep k (by simp) (by simp), h.rcabs.keep k (by simp) (by simp), below_keep h.below k h.below.size (by simp)⟩
theorem Both.of_heap {w0 w w' : World} {b bl d dl m t : Nat} {L : List Cab} (h : Both w0 w b bl d dl m t L) (e1 : w'.heap = w.heap) (e2 : w'.os = w.os) (e3 : w'.tape = w.tape) (e4 : w'.output = w.output) : Both w0 w' b bl d dl m t L :=
  ⟨h.len, h.good, h.cabs.of_heap e1, h.rcabs.of_heap e1, below_of h.below e1 e2 e3 e4⟩

set_option maxRecDepth 100000 in
set_option maxHeartbeats 20000000 in
theorem cableExact_walk (m : Nat) (hm1 : 1 ≤ m) (hm8 : m ≤ 8) (v : Value) (acts : List Act23) (w : World) (hv : Sl Act23.cells 4 w v acts) (hg : ∀ x ∈ acts, x.good) :
    Calls Try.prog 5 #[.int .i64 m, v] w fun e w' => e = .returned (.bool true) ∧ Below w.heap.size w w' := by
  obtain ⟨va, vcap, rfl, hvl⟩ := hv.shape
  have hvl' : acts.length ≤ 9223372036854775807 := hvl
  have Hg := Lib.hid hg
  have H1 : decide ((m : Int) < 1) = false := by simp; omega
  have H2 : decide (8 < (m : Int)) = false := by simp; omega
  clear hg hvl
  go_enter Try.func5, Try.ntmps5
  go_wp2_with fail
  refine (cable_awake _).mono ?_
  rintro e w0 ⟨rfl, hk0⟩
  go_wp2_with fail
  refine (cable_New _ _ (by omega) (by omega)).mono ?_
  rintro e w1 ⟨b, bl, rfl, hc1, hb, hbl, hk1⟩
  rw [Int.toNat_natCast] at hc1
  go_wp2_with fail
  refine (rcable_New _ _ (by omega) (by omega)).mono ?_
  rintro e w2 ⟨d, dl, rfl, hd1, hd, hdl, hk2⟩
  rw [Int.toNat_natCast] at hd1
  have hB : Both w w2 b bl d dl m 0 (List.replicate m Cab.zero) := by
    refine ⟨by simp, ?_, hc1.keep hk2 (by simp) (by simp), by rw [List.map_replicate]; exact hd1, ((hk0.trans hk1).trans hk2).below (by simp)⟩
    intro c hc
    rw [List.eq_of_mem_replicate hc]
    exact ⟨by simp [Cab.zero], by simp [Cab.zero], by simp [Cab.zero], by simp [Cab.zero]⟩
  have hl1 := hc1.le_heap
  have s0 := hk0.size
  have s1 := hk1.size
  have hbs : w.heap.size ≤ b ∧ w.heap.size ≤ bl ∧ w.heap.size ≤ d ∧ w.heap.size ≤ dl := ⟨by omega, by omega, by omega, by omega⟩
  have hdj : b ≠ dl ∧ bl ≠ dl ∧ b ≠ d ∧ bl ≠ d := ⟨by omega, by omega, by omega, by omega⟩
  have HBS := Lib.hid hbs
  have HDJ := Lib.hid hdj
  clear hk0 hk1 hk2 hc1 hd1 hb hbl hd hdl hl1 s0 s1 hbs hdj
  go_wp2_with fail
  go_loopg [8] acts.length (fun g i wr => ∃ (t : Nat) (L : List Cab), i = .int .i64 t ∧ t ≤ acts.length ∧ t ≤ 150 ∧ g = acts.length - t ∧ Both w wr b bl d dl m t L)
  case atStart => exact ⟨0, _, rfl, Nat.zero_le _, Nat.zero_le _, by omega, hB⟩
  case round =>
    obtain ⟨t, L, rfl, ht, ht2, hgk, hO⟩ := hrel
    clear hB
    by_cases hlt : t < acts.length
    · by_cases h150 : t < 150
      · have hx : acts[t]? = some acts[t] := List.getElem?_eq_getElem hlt
        have hgx := Hg.out _ (List.getElem_mem hlt)
        have hsl := hv.below Act23.cells_length hO.below (Nat.le_refl _)
        obtain ⟨ba, off, cap', hve, _, _, hcell⟩ := hsl.cell hx
        obtain ⟨rfl, _, rfl⟩ : va = some ⟨ba, off, none⟩ ∧ True ∧ vcap = cap' := by simpa using hve
        generalize acts[t] = x at hx hgx hcell
        have x0 := hcell 0 (by omega)
        have x1 := hcell 1 (by omega)
        have x2 := hcell 2 (by omega)
        have x3 := hcell 3 (by omega)
        simp only [Act23.cells, List.getElem?_cons_zero, List.getElem?_cons_succ, Nat.add_zero] at x0 x1 x2 x3
        clear hcell hve hsl hx
        have HO := Lib.hid hO
        clear hO
        by_cases hxs : x.s.size ≤ 8192
        · by_cases hxn : x.n < 4611686018427387904
          · have HXS := Lib.hid hxs
            have HXN := Lib.hid hxn
            go_upto_region 15 with fail
            go_cut [9, 10] (fun s9 s10 wx => s9 = .pointer (some ⟨wr.heap.size, 0, none⟩) ∧ s10 = .bool (at? L x.i).isSome ∧ Blk wx wr.heap.size 31 x.cells ∧ Both w wx b bl d dl m t L)
            case first =>
              have hlen := HO.out.len
              have ha := at?_isSome L x.i
              rw [hlen] at ha
              have HA := Lib.hid ha
              clear ha
              have hxb : Blk (wr.alloc (.cells #[.int .i64 x.kind, .int .i64 x.i, .int .i64 x.n, .string x.s] 31)) wr.heap.size 31 x.cells := Blk.newA wr _ _
              have hOx := Both.alloc HO.out (.cells #[.int .i64 x.kind, .int .i64 x.i, .int .i64 x.n, .string x.s] 31)
              by_cases h0 : 0 ≤ x.i
              · by_cases h1 : x.i < m
                · go_wp2_with fail
                  go_meet
                  exact ⟨rfl, by rw [HA.out]; simp [h0, h1], hxb, hOx⟩
                · go_wp2_with fail
                  go_meet
                  exact ⟨rfl, by rw [HA.out]; simp; omega, hxb, hOx⟩
              · go_wp2_with fail
                go_meet
                exact ⟨rfl, by rw [HA.out]; simp; omega, hxb, hOx⟩
            case rest =>
              obtain ⟨rfl, rfl, hxb, hOx⟩ := hcut
              have hcl := HO.out.cabs.le_heap
              have hrl := HO.out.rcabs.le_heap
              have hwl := HO.out.below.size
              have hgood := Lib.hid hOx.good
              have hlen := Lib.hid hOx.len
              have hXs : w.heap.size ≤ wr.heap.size ∧ b < wr.heap.size ∧ bl < wr.heap.size ∧ d < wr.heap.size ∧ dl < wr.heap.size := ⟨hwl, hcl.1, hcl.2, hrl.1, hrl.2⟩
              have HX := Lib.hid hXs
              have HOx := Lib.hid hOx
              clear hcl hrl hwl hXs HO hOx x0 x1 x2 x3
              obtain ⟨g0, g1, g2, g3⟩ := xcells hxb
              go_upto_block 2 with fail
              go_cut [10] (fun _ wy => ∃ L', Both w wy b bl d dl m (t + 1) L')
              case first =>
                have hOx := HOx.out
                have hdj := HDJ.out
                have hXs := HX.out
                have hX1 : wr.heap.size ∉ [bl] := by simp; omega
                have hX2 : wr.heap.size ∉ [dl] := by simp; omega
                have hd1 : d ∉ [bl] := by simp; omega
                have hd2 : dl ∉ [bl] := by simp; omega
                have hb1 : b ∉ [dl] := by simp; omega
                have hb2 : bl ∉ [dl] := by simp; omega
                have hB1 : ∀ s ∈ [bl], w.heap.size ≤ s := by have := HBS.out; simp; omega
                have hB2 : ∀ s ∈ [dl], w.heap.size ≤ s := by have := HBS.out; simp; omega
                have hN := Lib.hid (And.intro hX1 (And.intro hX2 (And.intro hd1 (And.intro hd2 (And.intro hb1 (And.intro hb2 (And.intro hB1 hB2)))))))
                have hsz := Lib.hid hOx.below.size
                clear hdj hXs hX1 hX2 hd1 hd2 hb1 hb2 hB1 hB2 hOx
                have hs0 : Hid (∀ c ∈ L, c.out.size + x.s.size ≤ 9223372036854775807) := fun c hc => by
                  have h1 := (hgood.out c hc).1
                  have h2 := HXS.out
                  omega
                have hi0 : Hid (∀ c ∈ L, c.inn.size ≤ 16384) := fun c hc => (hgood.out c hc).2.1
                have hm0 : Hid (x.s.size ≤ 9223372036854775807) := by have := HXS.out; show x.s.size ≤ _; omega
                cases hk1 : (x.kind == 1) with
                | true =>
                  as_aux_lemma =>
                    go_wp2_with fail
                    refine (cable_Take_all b bl L x.n _ HOx.out.cabs).mono ?_
                    rintro e w3 ⟨rfl, hc3, hk3⟩
                    obtain ⟨q0, q1, q2, q3⟩ := xcells (hk3.blk hxb hN.out.1)
                    have hr3 := HOx.out.rcabs.keep hk3 hN.out.2.2.1 hN.out.2.2.2.1
                    clear g0 g1 g2 g3
                    go_wp2_with fail
                    refine (rcable_Take_all d dl L t hgood.out x.n HXN.out _ hr3).mono ?_
                    rintro e w4 ⟨rfl, hr4, hk4⟩
                    have hc4 := hc3.keep hk4 hN.out.2.2.2.2.1 hN.out.2.2.2.2.2.1
                    go_wp2_with fail
                    go_meet
                    exact ⟨_, (takeC_length _ _).trans hlen.out, takeC_good hgood.out _ HXN.out, hc4, hr4, below_keep (below_keep HOx.out.below hk3 hsz.out hN.out.2.2.2.2.2.2.1) hk4 (Nat.le_trans hsz.out hk3.size) hN.out.2.2.2.2.2.2.2⟩
                | false =>
                  cases hk2 : (x.kind == 2) with
                  | true =>
                    as_aux_lemma =>
                      go_wp2_with fail
                      refine (cable_Free_all b bl L x.i _ _ HOx.out.cabs).mono ?_
                      rintro e w3 ⟨rfl, hc3, hk3⟩
                      obtain ⟨q0, q1, q2, q3⟩ := xcells (hk3.blk hxb hN.out.1)
                      have hr3 := HOx.out.rcabs.keep hk3 hN.out.2.2.1 hN.out.2.2.2.1
                      clear g0 g1 g2 g3
                      go_wp2_with fail
                      refine (rcable_Free_all d dl L t hgood.out x.i _ _ hr3).mono ?_
                      rintro e w4 ⟨rfl, hr4, hk4⟩
                      have hc4 := hc3.keep hk4 hN.out.2.2.2.2.1 hN.out.2.2.2.2.2.1
                      go_wp2_with fail
                      go_meet
                      exact ⟨_, (freeC_length _ _ _).trans hlen.out, freeC_good hgood.out _ _, hc4, hr4, below_keep (below_keep HOx.out.below hk3 hsz.out hN.out.2.2.2.2.2.2.1) hk4 (Nat.le_trans hsz.out hk3.size) hN.out.2.2.2.2.2.2.2⟩
                  | false =>
                    cases hk3' : (x.kind == 3) with
                    | true =>
                      as_aux_lemma =>
                        go_wp2_with fail
                        go_region_held3 (fun w' => w'.cell? ⟨wr.heap.size, 1, none⟩ = some (.int .i64 x.i) ∧ w'.cell? ⟨wr.heap.size, 3, none⟩ = some (.string x.s))
                          (first | exact ⟨z1, z3⟩ | exact ⟨q1, q3⟩ | exact ⟨g1, g3⟩ | go_keep)
                          (first
                            | (go_at_call 26; refine (cable_Send_all b bl L x.i x.s _ (HOx.out.cabs.drew) hs0.out).mono ?_; rintro e w3 ⟨rfl, hc3, hk3⟩; obtain ⟨q0, q1, q2, q3⟩ := xcells (hk3.blk (hxb.drew) hN.out.1))
                            | (go_at_call 27; refine (rcable_Send_all d dl L t hgood.out x.i x.s _ (HOx.out.rcabs.drew.keep hk3 hN.out.2.2.1 hN.out.2.2.2.1) hs0.out).mono ?_; rintro e w4 ⟨rfl, hr4, hk4⟩; obtain ⟨z0, z1, z2, z3⟩ := xcells (hk4.blk (hk3.blk (hxb.drew) hN.out.1) hN.out.2.1)))
                        have hc4 := hc3.keep hk4 hN.out.2.2.2.2.1 hN.out.2.2.2.2.2.1
                        go_wp2_with fail
                        go_meet
                        exact ⟨_, (sendC_length _ _ _).trans hlen.out, sendC_good hgood.out _ _ HXS.out, hc4, hr4, below_keep (below_keep HOx.out.below.drew hk3 hsz.out hN.out.2.2.2.2.2.2.1) hk4 (Nat.le_trans hsz.out hk3.size) hN.out.2.2.2.2.2.2.2⟩
                    | false =>
                      cases hk4' : (x.kind == 4) with
                      | true =>
                        as_aux_lemma =>
                          rcases hat' : at? L x.i with _ | c
                          · have hso : (at? L x.i).isSome = false := by rw [hat']; rfl
                            have hdr : drainC L x.i = (.empty, L) := by simp only [drainC, hat']
                            have Hdr := Lib.hid hdr
                            clear hat' hdr
                            go_wp2_with fail
                            refine (cable_Drain_all b bl L x.i _ HOx.out.cabs).mono ?_
                            rw [Hdr.out]
                            rintro e w3 ⟨rfl, hc3, hk3⟩
                            have hr3 := HOx.out.rcabs.keep hk3 hN.out.2.2.1 hN.out.2.2.2.1
                            go_wp2_with fail
                            go_meet
                            exact ⟨_, hlen.out, fun c hc => good_mono (hgood.out c hc) (by omega), hc3, hr3, below_keep HOx.out.below hk3 hsz.out hN.out.2.2.2.2.2.2.1⟩
                          · have hso : (at? L x.i).isSome = true := by rw [hat']; rfl
                            have hat := at?_some hat'
                            have hdr : drainC L x.i = (c.out, L.set x.i.toNat { c with out := .empty }) := by simp only [drainC, hat']
                            have Hdr := Lib.hid hdr
                            have Hdg := Lib.hid (drainC_good hgood.out x.i)
                            have Hdl := Lib.hid (drainC_length L x.i)
                            rw [hdr] at Hdg Hdl
                            have hi0 := hat.1
                            have hi1 := hat.2.1
                            have hh := HOx.out.rcabs.head.get (k := 0) rfl
                            have hrg := toR_get hat.2.2
                            have c1 := HOx.out.rcabs.cell hrg 1 (by omega)
                            simp only [Rcab.cells, List.getElem?_cons_zero, List.getElem?_cons_succ, List.length_map] at c1 hh
                            have hfz := HOx.out.rcabs.body.frozen
                            have hset := HOx.out.rcabs.set hrg 1 (by omega) (c' := { c.toR with out := .empty }) (.string .empty) rfl
                            have HS := Lib.hid hset
                            have hil : (L.length : Int) ≤ 8 := by have := hlen.out; omega
                            have hot : c.toR.out = c.out := rfl
                            rw [hot] at c1
                            clear hat' hdr hat hrg hset hot
                            have HS4 := HS
                            have hXd : wr.heap.size ≠ dl := by have := hN.out.2.1; simpa using this
                            go_wp2_with fail
                            go_quiet (fail)
                            go_wp2_with fail
                            go_region
                            go_wp2_with fail
                            refine (cable_Drain_all b bl L x.i _ ?hcd).mono ?_
                            case hcd => exact (HOx.out.cabs.setOther (a := ⟨dl, x.i.toNat * 5 + 1, none⟩) (by have := hN.out.2.2.2.2.1; simpa using this) (by have := hN.out.2.2.2.2.2.1; simpa using this) (.string .empty)).of_heap rfl
                            rw [Hdr.out]
                            rintro e w3 ⟨rfl, hc3, hk3⟩
                            have hr3 := Rcabs.keep (HS4.out.of_heap (by rfl)) hk3 hN.out.2.2.1 hN.out.2.2.2.1
                            have hb3 := below_keep (below_of (HOx.out.below.setCell (p := ⟨dl, x.i.toNat * 5 + 1, none⟩) (HBS.out.2.2.2) (.string .empty)) (by rfl) (by rfl) (by rfl) (by rfl)) hk3 (by simpa using hsz.out) hN.out.2.2.2.2.2.2.1
                            go_wp2_with fail
                            go_meet
                            exact ⟨_, Hdl.out.trans hlen.out, Hdg.out, hc3, by rw [List.map_set]; exact hr3, hb3⟩
                      | false =>
                        cases hk5 : (x.kind == 5) with
                        | true =>
                          as_aux_lemma =>
                            go_wp2_with fail
                            go_region_held3 (fun w' => w'.cell? ⟨wr.heap.size, 1, none⟩ = some (.int .i64 x.i) ∧ w'.cell? ⟨wr.heap.size, 3, none⟩ = some (.string x.s))
                              (first | exact ⟨z1, z3⟩ | exact ⟨q1, q3⟩ | exact ⟨g1, g3⟩ | go_keep)
                              (first
                                | (go_at_call 29; refine (cable_Come_all b bl L x.i x.s _ (HOx.out.cabs.drew) hi0.out hm0.out).mono ?_; rintro e w3 ⟨rfl, hc3, hk3⟩; obtain ⟨q0, q1, q2, q3⟩ := xcells (hk3.blk (hxb.drew) hN.out.1))
                                | (go_at_call 30; refine (rcable_Come_all d dl L x.i x.s _ (HOx.out.rcabs.drew.keep hk3 hN.out.2.2.1 hN.out.2.2.2.1) hi0.out hm0.out).mono ?_; rintro e w4 ⟨rfl, hr4, hk4⟩; obtain ⟨z0, z1, z2, z3⟩ := xcells (hk4.blk (hk3.blk (hxb.drew) hN.out.1) hN.out.2.1)))
                            have hc4 := hc3.keep hk4 hN.out.2.2.2.2.1 hN.out.2.2.2.2.2.1
                            go_wp2_with fail
                            go_meet
                            exact ⟨_, (comeC_length _ _ _).trans hlen.out, comeC_good hgood.out _ _, hc4, hr4, below_keep (below_keep HOx.out.below.drew hk3 hsz.out hN.out.2.2.2.2.2.2.1) hk4 (Nat.le_trans hsz.out hk3.size) hN.out.2.2.2.2.2.2.2⟩
                        | false =>
                          cases hk6 : (x.kind == 6) with
                          | true =>
                            as_aux_lemma =>
                              rcases hat' : at? L x.i with _ | c
                              · have hso : (at? L x.i).isSome = false := by rw [hat']; rfl
                                have hdr : cutC L x.i = L := by simp only [cutC, hat']
                                have Hdr := Lib.hid hdr
                                clear hat' hdr
                                go_wp2_with fail
                                refine (cable_Cut_all b bl L x.i _ HOx.out.cabs).mono ?_
                                rw [Hdr.out]
                                rintro e w3 ⟨rfl, hc3, hk3⟩
                                have hr3 := HOx.out.rcabs.keep hk3 hN.out.2.2.1 hN.out.2.2.2.1
                                go_wp2_with fail
                                go_meet
                                exact ⟨_, hlen.out, fun c hc => good_mono (hgood.out c hc) (by omega), hc3, hr3, below_keep HOx.out.below hk3 hsz.out hN.out.2.2.2.2.2.2.1⟩
                              · have hso : (at? L x.i).isSome = true := by rw [hat']; rfl
                                have hat := at?_some hat'
                                have hdr : cutC L x.i = L.set x.i.toNat { c with cut := true } := by simp only [cutC, hat']
                                have Hdr := Lib.hid hdr
                                have Hdg := Lib.hid (cutC_good hgood.out x.i)
                                have Hdl := Lib.hid (cutC_length L x.i)
                                rw [hdr] at Hdg Hdl
                                have Hat := Lib.hid hat
                                have hi0 := hat.1
                                have hi1 := hat.2.1
                                have hil : (L.length : Int) ≤ 8 := by have := hlen.out; omega
                                clear hat' hdr hat
                                go_wp2_with fail
                                refine (cable_Cut_all b bl L x.i _ HOx.out.cabs).mono ?_
                                rw [Hdr.out]
                                rintro e w3 ⟨rfl, hc3, hk3⟩
                                have hr3 := HOx.out.rcabs.keep hk3 hN.out.2.2.1 hN.out.2.2.2.1
                                obtain ⟨q0, q1, q2, q3⟩ := xcells (hk3.blk hxb hN.out.1)
                                have hh := hr3.head.get (k := 0) rfl
                                have hrg := toR_get Hat.out.2.2
                                have c1 := hr3.cell hrg 3 (by omega)
                                simp only [Rcab.cells, List.getElem?_cons_zero, List.getElem?_cons_succ, List.length_map] at c1 hh
                                have hfz := hr3.body.frozen
                                have HS := Lib.hid (hr3.set hrg 3 (by omega) (c' := { c.toR with cut := true }) (.bool true) rfl)
                                have hXd : wr.heap.size ≠ dl := by have := hN.out.2.1; simpa using this
                                clear hrg g0 g1 g2 g3
                                go_wp2_with fail
                                go_region
                                go_wp2_with fail
                                go_meet
                                refine ⟨_, Hdl.out.trans hlen.out, Hdg.out, ?_, ?_, ?_⟩
                                · exact (hc3.setOther (a := ⟨dl, x.i.toNat * 5 + 3, none⟩) (by have := hN.out.2.2.2.2.1; simpa using this) (by have := hN.out.2.2.2.2.2.1; simpa using this) (.bool true)).of_heap rfl
                                · rw [List.map_set]; exact HS.out.of_heap rfl
                                · exact below_of ((below_keep HOx.out.below hk3 hsz.out hN.out.2.2.2.2.2.2.1).setCell (p := ⟨dl, x.i.toNat * 5 + 3, none⟩) (HBS.out.2.2.2) (.bool true)) rfl rfl rfl rfl
                          | false =>
                            as_aux_lemma =>
                              rcases hat' : at? L x.i with _ | c
                              · have hso : (at? L x.i).isSome = false := by rw [hat']; rfl
                                have hdr : readC L x.i = ((.empty, false), L) := by simp only [readC, hat']
                                have Hdr := Lib.hid hdr
                                clear hat' hdr
                                go_wp2_with fail
                                refine (cable_Read_all b bl L x.i _ HOx.out.cabs).mono ?_
                                rw [Hdr.out]
                                rintro e w3 ⟨rfl, hc3, hk3⟩
                                have hr3 := HOx.out.rcabs.keep hk3 hN.out.2.2.1 hN.out.2.2.2.1
                                go_wp2_with fail
                                go_meet
                                exact ⟨_, hlen.out, fun c hc => good_mono (hgood.out c hc) (by omega), hc3, hr3, below_keep HOx.out.below hk3 hsz.out hN.out.2.2.2.2.2.2.1⟩
                              · have hso : (at? L x.i).isSome = true := by rw [hat']; rfl
                                have hat := at?_some hat'
                                have hdr : readC L x.i = ((c.inn, c.cut), L.set x.i.toNat { c with inn := .empty }) := by simp only [readC, hat']
                                have Hdr := Lib.hid hdr
                                have Hdg := Lib.hid (readC_good hgood.out x.i)
                                have Hdl := Lib.hid (readC_length L x.i)
                                rw [hdr] at Hdg Hdl
                                have Hat := Lib.hid hat
                                have hi0 := hat.1
                                have hi1 := hat.2.1
                                have hil : (L.length : Int) ≤ 8 := by have := hlen.out; omega
                                clear hat' hdr hat
                                go_wp2_with fail
                                refine (cable_Read_all b bl L x.i _ HOx.out.cabs).mono ?_
                                rw [Hdr.out]
                                rintro e w3 ⟨rfl, hc3, hk3⟩
                                have hr3 := HOx.out.rcabs.keep hk3 hN.out.2.2.1 hN.out.2.2.2.1
                                obtain ⟨q0, q1, q2, q3⟩ := xcells (hk3.blk hxb hN.out.1)
                                have hh := hr3.head.get (k := 0) rfl
                                have hrg := toR_get Hat.out.2.2
                                have c2 := hr3.cell hrg 2 (by omega)
                                have c3 := hr3.cell hrg 3 (by omega)
                                have e2 : c.toR.inn = c.inn := rfl
                                have e3 : c.toR.cut = c.cut := rfl
                                simp only [Rcab.cells, List.getElem?_cons_zero, List.getElem?_cons_succ, List.length_map, e2, e3] at c2 c3 hh
                                have hfz := hr3.body.frozen
                                have HS := Lib.hid (hr3.set hrg 2 (by omega) (c' := { c.toR with inn := .empty }) (.string .empty) rfl)
                                clear hrg g0 g1 g2 g3 e2 e3
                                go_wp2_with fail
                                go_quiet (fail)
                                go_wp2_with fail
                                go_quiet (fail)
                                go_wp2_with fail
                                go_region
                                go_wp2_with fail
                                go_meet
                                refine ⟨_, Hdl.out.trans hlen.out, Hdg.out, ?_, ?_, ?_⟩
                                · exact (hc3.setOther (a := ⟨dl, x.i.toNat * 5 + 2, none⟩) (by have := hN.out.2.2.2.2.1; simpa using this) (by have := hN.out.2.2.2.2.2.1; simpa using this) (.string .empty)).of_heap rfl
                                · rw [List.map_set]; exact HS.out.of_heap rfl
                                · exact below_of ((below_keep HOx.out.below hk3 hsz.out hN.out.2.2.2.2.2.2.1).setCell (p := ⟨dl, x.i.toNat * 5 + 2, none⟩) (HBS.out.2.2.2) (.string .empty)) rfl rfl rfl rfl
              case rest =>
                obtain ⟨L', hB'⟩ := hcut
                as_aux_lemma =>
                  clear g0 g1 g2 g3 hxb HOx hgood hlen
                  go_wp2_with fail
                  go_loopg [20] m (fun g i wz => ∃ k : Nat, i = .int .i64 k ∧ k ≤ m ∧ g = m - k ∧ Both w wz b bl d dl m (t + 1) L')
                  case atStart => exact ⟨0, rfl, Nat.zero_le _, by omega, hB'⟩
                  case round =>
                    obtain ⟨k, rfl, hkm, hg2, hO2⟩ := hrel
                    by_cases hkl : k < m
                    · obtain ⟨c, hc⟩ : ∃ c, L'[k]? = some c := ⟨_, List.getElem?_eq_getElem (by have := hO2.len; omega)⟩
                      have HC := Lib.hid hc
                      have HO2 := Lib.hid hO2
                      have hll : k < L'.length := by have := hO2.len; omega
                      have hl8 : L'.length ≤ 8 := by have := hO2.len; omega
                      have hgc := hO2.good c (List.mem_of_getElem? hc)
                      have ho0 := hgc.2.2.1
                      have ho1 := hgc.2.2.2
                      clear hc hO2 hgc hB'
                      go_wp2_with fail
                      refine (cable_Owner_yes b bl L' k _ HO2.out.cabs (by omega) (by omega) c (by simpa using HC.out)).mono ?_
                      rintro e w5 ⟨rfl, hk5⟩
                      have hr5 := HO2.out.rcabs.keep hk5 (by simp) (by simp)
                      have hc5 := HO2.out.cabs.keep hk5 (by simp) (by simp)
                      have HO5 := Lib.hid (HO2.out.keep hk5)
                      have hh := hr5.head.get (k := 0) rfl
                      have hrg := toR_get HC.out
                      have c0 := hr5.cell hrg 0 (by omega)
                      have c4 := hr5.cell hrg 4 (by omega)
                      have e4 : c.toR.life = c.life := rfl
                      simp only [Rcab.cells, List.getElem?_cons_zero, List.getElem?_cons_succ, List.length_map, Nat.add_zero, e4] at c0 c4 hh
                      have HC5 := Lib.hid hc5
                      clear hrg hr5 hc5 e4 HO2 hk5
                      cases hbz : c.busy with
                      | true =>
                        have e0 : c.toR.owner = c.owner + 1 := by simp [Cab.toR, hbz]
                        rw [e0] at c0
                        have hne : ((c.owner + 1) != 0) = true := by simp; omega
                        have hwr : IntKind.i64.wrap (c.owner + 1 - 1) = c.owner := (IntWalk.i64_in _ (by omega)).trans (by omega)
                        clear e0
                        go_wp2_with fail
                        go_quiet ((go_at_call 33; exact Calls.quiet_of_same (cable_Life_yes b bl L' k _ (by exact HC5.out.of_heap rfl) (by omega) (by omega) c (by simpa using HC.out))))
                        go_wp2_with fail
                        go_roundg (m - (k + 1))
                        case measure => omega
                        case rel => exact ⟨k + 1, by go_num, by omega, rfl, HO5.out.of_heap rfl rfl rfl rfl⟩
                      | false =>
                        have e0 : c.toR.owner = 0 := by simp [Cab.toR, hbz]
                        rw [e0] at c0
                        clear e0
                        go_wp2_with fail
                        go_quiet ((go_at_call 33; exact Calls.quiet_of_same (cable_Life_yes b bl L' k _ (by exact HC5.out.of_heap rfl) (by omega) (by omega) c (by simpa using HC.out))))
                        go_wp2_with fail
                        go_roundg (m - (k + 1))
                        case measure => omega
                        case rel => exact ⟨k + 1, by go_num, by omega, rfl, HO5.out.of_heap rfl rfl rfl rfl⟩
                    · go_wp2_with fail
                      go_roundg (acts.length - (t + 1))
                      case measure => omega
                      case rel => exact ⟨t + 1, L', by go_num, by omega, by omega, rfl, hO2⟩
          · have HO2 := HO.out
            have hb0 := HO2.below.alloc HO2.below.size (.cells #[.int .i64 x.kind, .int .i64 x.i, .int .i64 x.n, .string x.s] 31)
            clear HO2
            go_wp2_with fail
            go_ret
            exact ⟨rfl, hb0⟩
        · have HO2 := HO.out
          have hb0 := HO2.below.alloc HO2.below.size (.cells #[.int .i64 x.kind, .int .i64 x.i, .int .i64 x.n, .string x.s] 31)
          clear HO2
          go_wp2_with fail
          go_ret
          exact ⟨rfl, hb0⟩
      · have HO2 := Lib.hid hO
        have hl : ((L.length : Nat) : Int) = m := by rw [hO.len]
        clear hO
        go_wp2_with fail
        refine (cable_Len b bl L _ HO2.out.cabs).mono ?_
        rintro e w3 ⟨rfl, hk3⟩
        go_wp2_with fail
        go_ret
        exact ⟨by simp [hl], (HO2.out.keep hk3).below⟩
    · have HO2 := Lib.hid hO
      have hl : ((L.length : Nat) : Int) = m := by rw [hO.len]
      clear hO
      go_wp2_with fail
      refine (cable_Len b bl L _ HO2.out.cabs).mono ?_
      rintro e w3 ⟨rfl, hk3⟩
      go_wp2_with fail
      go_ret
      exact ⟨by simp [hl], (HO2.out.keep hk3).below⟩

theorem cableExact_all (n : Int) (v : Value) (acts : List Act23) (w : World) (hn : in64 n) (hv : Sl Act23.cells 4 w v acts) (hg : ∀ x ∈ acts, x.good) :
    Calls Try.prog 5 #[.int .i64 n, v] w fun e w' => e = .returned (.bool true) ∧ Below w.heap.size w w' := by
  by_cases h : n < 1 ∨ 8 < n
  · exact (cableExact_bad n v w h).mono fun e w' h => ⟨h.1, h.2.below (by simp)⟩
  · obtain ⟨m, rfl⟩ : ∃ m : Nat, n = m := ⟨n.toNat, by omega⟩
    exact cableExact_walk m (by omega) (by omega) v acts w hv hg
end Go.Proofs.Ytbfnpoknamajnaa
