/- Parts of the proof of StockReplays, in order. No conditions but those that each theorem states. -/
import Derived.Test.YtkghgaopcgcheaaGreatDoorYStockReplays0
import Derived.Deep.RegionHeld3
import Derived.Deep.Cut
import Derived.Deep.DeepCutAuto
import Derived.Deep.LoopGhost
import Derived.Deep.AppendLies
import Derived.Deep.RegionLaw
import Derived.Lib.ItoaNum
import Derived.Lib.SlTrimSet
import Derived.Lib.SlBytesConst
import Derived.Test.YtkghgaopcgcheaaGreatDoorYStockReplays25
set_option maxRecDepth 100000
set_option maxHeartbeats 16000000
set_option linter.unusedSimpArgs false
set_option linter.unusedVariables false
namespace Go.Proofs.YtkghgaopcgcheaaGreatDoor
open Go.RowKit Go.Maps
attribute [local go_sem] Oper.semAt_some
def onlyRet (Q : Exit → Act → World → Prop) : Exit → Act → World → Prop
  | .normal, a, w => Q .normal a w
  | .ret, a, w => Q .ret a w
  | _, _, _ => False
theorem wp_onlyRet {P : Program} {c : Code} {Q : Exit → Act → World → Prop} {a : Act} {w : World} (h : c.wp P (onlyRet Q) a w) : c.wp P Q a w :=
  Code.wp_mono (fun e a w hq => by
    cases e with
    | normal => exact hq
    | ret => exact hq
    | _ => exact hq.elim) h
theorem BkS.busyB {w4 W : World} {m b : Nat} {rec : Loop} {L : List Slp} {u : Value} {T : TypeId} {xs : List Value} (h : BkS w4 m rec L u W) (hb : Blk W b T xs) (hn : b ≠ w4.heap.size + 1) : BkS w4 m { rec with state := .busy } L u (rfBusy W (w4.heap.size + 1) rec) ∧ Blk (rfBusy W (w4.heap.size + 1) rec) b T xs :=
  ⟨h.put, (World.putObj_heap_other (by omega)).trans hb⟩
theorem BkS.on {w4 W : World} {m : Nat} {rec rec' : Loop} {L : List Slp} {u : Value} (h : BkS w4 m rec' L u W) (hr : { rec with state := .ready, pending := none } = rec) : BkS w4 m rec L u (rfOn W (w4.heap.size + 1) rec) := by
  unfold rfOn; rw [hr]; exact h.put
theorem BkS.ended {w4 W : World} {m : Nat} {rec : Loop} {L : List Slp} {u : Value} (h : BkS w4 m rec L u W) : BkS w4 m { rec with state := .exhausted } L u (rfEnd W (w4.heap.size + 1) rec) := h.put
theorem BkS.cell7 {w4 W W' : World} {m : Nat} {rec : Loop} {L : List Slp} {u : Value} (h : BkS w4 m rec L u W) (hg : W.grownBy W' u.ownBlock) : Blk W' m 22 [u] :=
  (Keep.grown' hg (S := u.ownBlock.toList) (fun k hk _ => by rw [hk]; simp)).blk h.mv (by simp; intro e; have := (h.own.lt m e).1; have := h.lt; omega)
theorem BkS.others {w4 W W' : World} {m : Nat} {rec : Loop} {L : List Slp} {u u' : Value} (h : BkS w4 m rec L u W) (hg : W.grownBy W' u.ownBlock) : KeepsOthers W (W'.setCell ⟨m, 0, none⟩ u') := by
  refine (KeepsOthers.of_grownBy hg (fun j o hj ho => ?_)).trans (KeepsOthers.setCell _ _ _); rcases own_rows Slp.cells_length h.own with ⟨rfl, _⟩ | ⟨g, cap, R, rfl, _, hb, _⟩
  · simp [Value.ownBlock] at hj
  · simp [Value.ownBlock] at hj; subst hj; have hb' : W.heap[g]? = some (.cells _ _ _) := hb; rw [hb'] at ho; cases ho; rfl
theorem jar_row (x : Jar) : (∀ j v, (digC x.dig)[j]? = some v → x.cells[0 + j]? = some v) ∧ x.cells[32]? = some (.string (S x.typ)) ∧ x.cells[33]? = some (.int .i64 x.size) := by
  obtain ⟨⟨l, hl⟩, t, s, p⟩ := x; obtain ⟨b0, b1, b2, b3, b4, b5, b6, b7, b8, b9, b10, b11, b12, b13, b14, b15, b16, b17, b18, b19, b20, b21, b22, b23, b24, b25, b26, b27, b28, b29, b30, b31, rfl⟩ := dig32 l hl; refine ⟨fun j v hv => ?_, rfl, rfl⟩; unfold Jar.cells; rw [Nat.zero_add, List.getElem?_append_left (List.getElem?_eq_some_iff.1 hv).1]; exact hv
theorem rf_yieldA {F : Fence} {n : Nat} {P : Program} {l : Nat} {W W1 : World} {r : Loop} {x : Array Value} {a1 : Act} {Rn Rx : World → Prop} (hfn : F.fn r.fn) (hl : W.heap[l]? = some (.loop r)) (hl1 : W1.heap[l]? = some (.loop r)) (hr : r.state = .ready) (hps : x.size = r.params.size)
    (hassign : ∀ K : Act → World → Prop, K a1 W1 → r.assign.wpIn (F.inRound l) n P (Exit.then K (fun _ _ _ => False)) { tmps := (r.params.zip x).foldl (fun t (p, v) => t.setIfInBounds p v) r.tmps, defers := [] } W)
    (hbody : r.body.wpIn (F.inRound l) n P (rfPost l r (rfBusy W1 l r) Rn Rx) a1 (rfBusy W1 l r)) :
    YieldAt F n P l x W fun e W' => (e = .returned (.bool true) ∧ Rn W') ∨ (e = .returned (.bool false) ∧ Rx W') := by
  refine ⟨_, _, _, _, run_yield hl hps, roundIn_of_wpIn hfn (hassign _ ⟨_, run_beginRound hl1 hr, ?_⟩)⟩; have h2 : (rfBusy W1 l r).heap[l]? = some (.loop { r with state := .busy }) := World.putObj_heap_same (Array.getElem?_eq_some_iff.1 hl1).1; refine wpIn_mono hbody ?_; rintro e a3 W3 hp
  cases e with
  | normal => exact ⟨_, _, run_endRound none (hp.1.same _ _ h2 rfl), .inl ⟨rfl, hp.2⟩⟩
  | ret => exact ⟨_, _, run_endRound (some .ret) (hp.1.same _ _ h2 rfl), .inr ⟨rfl, hp.2⟩⟩
  | exit id => exact hp.elim
  | goto t => exact hp.elim
  | panic ch => exact hp.elim
  | outgrown => exact hp.elim
def slipsOf (T : List Tik) (R : List Jar) : List Slp := R.reverse.map jarS ++ T.map notedS
theorem state_slips {Y : List Nat} {t r : Nat} {B : Int} {T : List Tik} {R : List Jar} (w : World) (h : St Y w t r B T R) :
    Calls Tryz.prog 47 #[.agg #[.pointer (some ⟨t, 0, none⟩), .pointer (some ⟨r, 0, none⟩)]] w fun e w' => ∃ v, e = .returned v ∧ Own Slp.cells 38 w.heap.size 27 w' v (slipsOf T R) ∧ Keep [] w w' := by
  obtain ⟨n, hn⟩ : ∃ n, w.heap.size = n := ⟨_, rfl⟩
  obtain ⟨is, Hs⟩ := slpinfo'; have hmo := h.most; have hYn : ∀ x ∈ Y, x < n := by rw [← hn]; obtain ⟨A, C, rfl, _, _, _, h4⟩ := h; exact h4
  have hln := h.asc.2; have k1 := (Keep.refl [] w).alloc (.cells #[.pointer (some ⟨t, 0, none⟩), .pointer (some ⟨r, 0, none⟩)] 83); have b1 := Blk.newA w #[.pointer (some ⟨t, 0, none⟩), .pointer (some ⟨r, 0, none⟩)] 83; have z1 : (w.alloc (.cells #[.pointer (some ⟨t, 0, none⟩), .pointer (some ⟨r, 0, none⟩)] 83)).heap.size = n + 1 := by rw [alloc_size, hn]
  rw [hn] at b1; have k2 := k1.alloc (.cells #[.slice none 0 0] 22); have b12 := b1.alloc (.cells #[.slice none 0 0] 22); have b2 := Blk.newA (w.alloc (.cells #[.pointer (some ⟨t, 0, none⟩), .pointer (some ⟨r, 0, none⟩)] 83)) #[.slice none 0 0] 22; rw [z1] at b2; refine (callsIn_wide (n := 3)).1 ?_; refine callsIn_of_wp_marks Tryz.func47 rfl trivial ?_ rfl; simp only [Tryz.ntmps47, List.size_toArray, List.length_cons, List.length_nil, Nat.reduceAdd, Nat.reduceSub, Array.replicate_succ, Array.replicate_zero, List.push_toArray, List.append_toArray, List.nil_append, List.cons_append]; refine wpIn_wide.2 (wp_onlyRet ?_)
  go_upto_region 1 with fail
  (try simp only [hn]); generalize (w.alloc (.cells #[.pointer (some ⟨t, 0, none⟩), .pointer (some ⟨r, 0, none⟩)] 83)).alloc (.cells #[.slice none 0 0] 22) = w2 at k2 b12 b2 ⊢; have hst := h.keep0 k2; have HJ := Lib.hid hst.jars; have c0 := b12.get (k := 0) rfl; have c1 := b12.get (k := 1) rfl; have H2 := Lib.hid (And.intro k2 (And.intro b12 (And.intro b2 hst))); clear k1 b1 z1 k2 b12 b2 h hst; go_wp2_with fail; refine HJ.out.mono ?_; rintro e w3 ⟨v, rfl, ho3, k3⟩; obtain ⟨a3, cp3, rfl, hcp3⟩ := ho3.shape; have H3 := Lib.hid (And.intro ho3 k3); clear ho3 k3 HJ hcp3; go_wp2_with fail; refine (Backward_made a3 R.length cp3 w3).mono ?_; rintro e w4' ⟨rfl, rfl⟩; have b4 := Blk.newA w3 #[.slice a3 R.length cp3] 29; have k4 := (Keep.refl [] w3).alloc (.cells #[.slice a3 R.length cp3] 29); obtain ⟨bs, hbs⟩ : ∃ n, w3.heap.size = n := ⟨_, rfl⟩
  rw [hbs] at b4; (try rw [hbs]); generalize w3.alloc (.cells #[.slice a3 R.length cp3] 29) = w4 at b4 k4 ⊢; have hm4 : Blk w4 (n + 1) 22 [.slice none 0 0] := k4.blk (H3.out.2.blk H2.out.2.2.1 (by simp)) (by simp); have hlt2 := H2.out.2.2.1.lt
  have hI : ∀ W, Keep [n + 1] w4 W → W.cell? ⟨bs, 0, none⟩ = some (.slice a3 R.length cp3) ∧ Sl Jar.cells 35 W (.slice a3 R.length cp3) R := fun W kw =>
    ⟨(kw.blk b4 (by simp; have := H3.out.2.size; omega)).get rfl, ((H3.out.1.keep0 k4).keep kw (fun g hg => by have := (H3.out.1.lt g hg).1; simp; omega)).sl Jar.cells_length⟩
  have K4 := Lib.hid (show Keep [] w w4 ∧ Keep [] w2 w4 from ⟨H2.out.1.trans (H3.out.2.trans k4), H3.out.2.trans k4⟩); clear b4 k4 hbs c0 c1; go_wp2_with fail; refine (wpIn_wide (n := 3)).1 ?_; refine slips_range (bs := bs) (m := n + 1) R hmo.1 (.slice a3 R.length cp3) rfl hm4 hI ?round ?done
  case round =>
    intro fn k x u W hk hS; have hrl0 : ((R.reverse.take k).map jarS).length ≤ 64 := by rw [List.length_map, List.length_take, List.length_reverse]; omega
    generalize (R.reverse.take k).map jarS = L1 at hS hrl0 ⊢; have hbd := bd_slipB x.dig x.typ x.size; obtain ⟨JC, hJC⟩ : ∃ z, x.cells = z := ⟨_, rfl⟩
    have HJC := Lib.hid (show JC.length = 35 ∧ ∀ v ∈ JC, v.oneCell' = true from ⟨by rw [← hJC]; exact Jar.cells_length _, by rw [← hJC]; exact Jar.one _⟩); have kA : Keep [] W (W.alloc (.cells JC.toArray 63)) := (Keep.refl _ _).alloc _; have bA := Blk.new W JC 63; have hSA := hS.keep0 kA; have hrow := jar_row x; rw [hJC] at hrow
    refine (rf_yieldA (a1 := ?a1) (W1 := W.alloc (.cells JC.toArray 63)) (Rn := fun W' => ∃ u', BkS w4 (n + 1) (rfRec w4 _ _ _ _ fn) (L1 ++ [jarS x]) u' W') (Rx := fun _ => False) trivial hS.ll hSA.ll rfl rfl ?assign ?body).mono (fun e W' hr => by
      rcases hr with ⟨h1, h2⟩ | ⟨_, h2⟩
      · exact ⟨h1, h2⟩
      · exact h2.elim)
    case assign =>
      intro K hK; dsimp only [rfRec]; rw [hJC]
      gi_wp2_with (first
        | (with_reducible (show wpListIn _ _ _ _ _ ((⟨none, .store _ (.tmp 4) (.tmp 12), _, _, _, none⟩ : Oper) :: _) _ _)
           refine wpListIn_store_new rfl 63 (.tmp 4) (.tmp 12) rfl _ JC (by rfl) (by rfl) (by rw [HJC.out.1]; kernel_rfl) (by rw [HJC.out.1]; kernel_rfl) HJC.out.2 ?_)
        | fail)
      exact hK
    case body =>
      have hbn : W.heap.size ≠ w4.heap.size + 1 := by have := (Array.getElem?_eq_some_iff.1 hS.ll).1; omega
      have hB := hSA.busyB bA hbn; dsimp only [rfRec] at hB ⊢; generalize rfBusy _ (w4.heap.size + 1) _ = WB at hB ⊢; obtain ⟨nb, hnb⟩ : ∃ z, W.heap.size = z := ⟨_, rfl⟩
      rw [hnb] at hB ⊢; have HB := Lib.hid hB; have c0 := hB.1.mv.get (k := 0) rfl; have c32 := hB.2.get hrow.2.1; have c33 := hB.2.get hrow.2.2; have HRD := Lib.hid (show WB.rangeAt nb 0 (digC x.dig) from fun j v hv => hB.2.get (hrow.1 j v hv)); have HDL := Lib.hid (digC_length x.dig); have hrl := hrl0; have f0 := hB.1.mv.frozen 0; clear hB hrow hSA kA bA hS hI hm4 hbn hnb
      gi_wp2_with (first
        | (with_reducible (show wpListIn _ _ _ _ _ ((⟨some 15, .load _ (.tmp 14), _, _, _, none⟩ : Oper) :: _) _ _)
           refine wpListIn_load_mid rfl 25 (.tmp 14) rfl nb 0 (by rfl) (digC x.dig) _ HRD.out Tryz.underlying25 rfl (by rw [HDL.out]; kernel_rfl) ?_; try simp only [sq])
        | (with_reducible (show wpListIn _ _ _ _ _ ((⟨some 20, .build _ _, _, _, _, none⟩ : Oper) :: _) _ _)
           refine wpListIn_b4 rfl (cs := (jarS x).cells) hbd _ _ _ _ rfl (by rfl) (by rfl) (by rfl) (by rfl) ?_; try simp only [sq])
        | (with_reducible (show wpListIn _ _ _ _ _ ((⟨some 21, .buildSlice _ _ _, _, _, _, none⟩ : Oper) :: _) _ _)
           refine wpListIn_buildOne rfl 22 27 (.tmp 20) rfl Hs (by omega) (by omega) Tryz.underlying22 (jarS x).cells (Slp.cells_length _) (by rfl) ?_; try simp only [sq])
        | (gi_at_builtin; go_must (refine wpListIn_append3 rfl _ _ 22 rfl is _ 104 Tryz.underlying22 Hs (by rfl) (by decide) Slp.cells_length Slp.one WB ((Array.getElem?_eq_some_iff.1 HB.out.1.ll).1) (by rfl) HB.out.1.own (jarS x) _ rfl _ (by rfl) (by show _ + 1 ≤ 9223372036854775807; omega) (by omega) ?_); intro v' w7 hown' hgr hat; obtain ⟨sa, sc, hv7, _⟩ := hown'.shape; obtain ⟨ln, hln7⟩ : ∃ z, (L1 ++ [jarS x]).length = z := ⟨_, rfl⟩; rw [hln7] at hv7; subst hv7; have H7 := Lib.hid (HB.out.1.more hown' hgr); have HK7 := Lib.hid (HB.out.1.others (u' := .slice sa ln sc) hgr); have b7 := HB.out.1.cell7 hgr; have c7 := b7.get (k := 0) rfl; have f7 := b7.frozen 0; clear hown' hgr hat b7)
        | fail)
      exact ⟨HK7.out, _, H7.out.on rfl⟩
  case done =>
    intro fn u W hS; have hE := hS.ended; generalize rfEnd W (w4.heap.size + 1) _ = w5 at hE ⊢; have HE := Lib.hid hE; have k5 : Keep [n + 1] w4 w5 := hE.kp; have b5 : Blk w5 n 83 [.pointer (some ⟨t, 0, none⟩), .pointer (some ⟨r, 0, none⟩)] := k5.blk (K4.out.2.blk H2.out.2.1 (by simp)) (by simp); have hst5 : St Y w5 t r B T R := (H2.out.2.2.2.keep0 K4.out.2).keep k5 (fun x hx => by have := hYn x hx; simp; omega); have c0 := b5.get (k := 0) rfl; have HT5 := Lib.hid hst5.tiks; unfold rfMark; clear hE hS b5 hst5 hI hm4; go_wp2_with fail; refine HT5.out.mono ?_; rintro e w6 ⟨v6, rfl, ho6, k6⟩; obtain ⟨a6, cp6, rfl, hcp6⟩ := ho6.shape; have H6 := Lib.hid (And.intro ho6 k6)
    have hg6 : ∀ g, (Value.slice a6 T.length cp6).ownBlock = some g → g ∉ (n + 1) :: u.ownBlock.toList := fun g hg hm => by
      have h1 := (ho6.lt g hg).1; have h2 := HE.out.mv.lt; rcases List.mem_cons.1 hm with rfl | hm
      · omega
      · simp at hm; have := (HE.out.own.lt g hm).2; omega
    have HG6 := Lib.hid hg6
    have HE6 := Lib.hid (show Blk w6 (n + 1) 22 [u] ∧ Own Slp.cells 38 (w4.heap.size + 2) 27 w6 u (R.reverse.map jarS) ∧ w6.heap[w4.heap.size]? = some (.deferred (some [])) ∧ w4.heap.size + 2 ≤ w6.heap.size ∧ Keep [n + 1] w4 w6 from
      ⟨k6.blk HE.out.mv (by simp), HE.out.own.keep0 k6, (k6.block _ (Array.getElem?_eq_some_iff.1 HE.out.dd).1 (by simp)).trans HE.out.dd, by have := (Array.getElem?_eq_some_iff.1 HE.out.ll).1; have := k6.size; omega, HE.out.kp.trans (k6.mono (by simp))⟩)
    have HLT := Lib.hid (show ∀ x ∈ (n + 1) :: u.ownBlock.toList, x = n + 1 ∨ w4.heap.size + 2 ≤ x from fun x hx => by
      rcases List.mem_cons.1 hx with rfl | hx
      · exact .inl rfl
      · simp at hx; exact .inr (HE.out.own.lt x hx).1)
    have HN4 := Lib.hid (show n + 1 < w4.heap.size from HE.out.lt); have HNN := Lib.hid hn; have HRL := Lib.hid (show (R.reverse.map jarS).length ≤ 64 by rw [List.length_map, List.length_reverse]; exact hmo.1); obtain ⟨RL, hRL⟩ : ∃ z, R.reverse.map jarS = z := ⟨_, rfl⟩
    have HRLD := Lib.hid hRL; have HK04 := Lib.hid K4.out.1; rw [hRL] at HE6 HRL; clear ho6 k6 HT5 hcp6 c0 hg6 hRL HE k5 hYn hmo hlt2 H2 H3 K4; go_wp2_with fail
    go_loopg [27] T.length (fun g i wr => ∃ (k : Nat) (uk : Value), i = .int .i64 k ∧ k ≤ T.length ∧ g = T.length - k ∧ Hid (Keep ((n + 1) :: u.ownBlock.toList) w6 wr) ∧ Hid (Blk wr (n + 1) 22 [uk] ∧ Own Slp.cells 38 (w4.heap.size + 2) 27 wr uk (RL ++ (T.take k).map notedS) ∧ (uk.ownBlock = u.ownBlock ∨ ∀ g, uk.ownBlock = some g → w6.heap.size ≤ g)))
    case atStart => exact ⟨0, u, rfl, Nat.zero_le _, by omega, Lib.hid (Keep.refl _ _), Lib.hid ⟨HE6.out.1, by simpa using HE6.out.2.1, .inl rfl⟩⟩
    case round =>
      obtain ⟨k, uk, rfl, hk, hgk, HK, HU⟩ := hrel; by_cases hlt : k < T.length
      · obtain ⟨x, hx⟩ : ∃ x, T[k]? = some x := ⟨_, List.getElem?_eq_getElem hlt⟩
        obtain ⟨ba, oa, ca', hva, hrg⟩ := ((H6.out.1.keep HK.out HG6.out).sl Tik.cells_length).rng Tik.cells_length hx; cases hva; obtain ⟨XC, hXC⟩ : ∃ z, x.cells = z := ⟨_, rfl⟩
        rw [hXC] at hrg; have HXL := Lib.hid (show XC.length = 38 by rw [← hXC]; exact Tik.cells_length _); have HX1 := Lib.hid (show ∀ v ∈ XC, v.oneCell' = true by rw [← hXC]; exact Tik.one _); obtain ⟨NC, hNC⟩ : ∃ z, (notedS x).cells = z := ⟨_, rfl⟩
        have HNC := Lib.hid (show (notedS x).cells = NC ∧ NC.length = 38 ∧ True from ⟨hNC, by rw [← hNC]; exact Slp.cells_length _, trivial⟩); have HNO := Lib.hid (fun w' => stock_noted x XC hXC w'); rw [hNC] at HNO; have HR := Lib.hid hrg; have htk : (T.take (k + 1)).map notedS = (T.take k).map notedS ++ [notedS x] := by rw [List.take_add_one, hx, List.map_append]; rfl
        have HTK := Lib.hid htk; have f1 : decide ((k : Int) < (T.length : Nat)) = true := decide_eq_true (by omega); have wk := IntWalk.i64_in ((k : Int) + 1) (by omega); have hlk : ((T.take k).map notedS).length ≤ 64 := by rw [List.length_map, List.length_take]; omega
        generalize hLk : RL ++ (T.take k).map notedS = Lk at HU; have HLK := Lib.hid hLk; have hrl : Lk.length ≤ 128 := by rw [← hLk, List.length_append]; have := HRL.out; omega
        clear hrg hXC hx htk hLk hNC
        go_upto_region 7 with (first | ((with_reducible refine gL 30 29 ?_); refine gl ba (oa + k * 38) XC HR.out (by rw [HXL.out]; kernel_rfl) ?_; try simp only [sq]) | ((with_reducible refine gS 6 30 ?_); refine wpList_store_new rfl 51 (.tmp 6) (.tmp 30) rfl _ XC (by rfl) (by rfl) (by rw [HXL.out]; kernel_rfl) (by rw [HXL.out]; kernel_rfl) HX1.out ?_) | fail)
        obtain ⟨n6, hn6⟩ : ∃ z, wr.heap.size = z := ⟨_, rfl⟩
        have bv := Blk.new wr XC 51; have kv := (Keep.refl [] wr).alloc (.cells XC.toArray 51); rw [hn6] at bv; (try rw [hn6]); generalize wr.alloc (.cells XC.toArray 51) = wv at bv kv ⊢; have hbu : ∀ g, uk.ownBlock = some g → g ≠ n6 := fun g hg e => by have := (HU.out.2.1.lt g hg).2; omega
        have hbm : n + 1 ≠ n6 := by have := HU.out.1.lt; omega
        have HL6 := Lib.hid (show Blk wv (n + 1) 22 [uk] ∧ Blk wv n6 51 XC ∧ Own Slp.cells 38 (w4.heap.size + 2) 27 wv uk Lk ∧ w4.heap.size + 2 ≤ wv.heap.size ∧ Keep ((n + 1) :: u.ownBlock.toList) w6 wv from
          ⟨kv.blk HU.out.1 (by simp), bv, HU.out.2.1.keep0 kv, by have := HE6.out.2.2.2.1; have := HK.out.size; have := kv.size; omega, HK.out.trans (kv.mono (by simp))⟩)
        have c0 := HL6.out.1.get (k := 0) rfl; have KD := Lib.hid ((Keep.refl [] wv).drew); obtain ⟨ln, hlnn⟩ : ∃ z, (Lk ++ [notedS x]).length = z := ⟨_, rfl⟩
        have HLN := Lib.hid hlnn
        have HADD := Lib.hid (show ∀ wq, Keep [] wv wq → ∀ v' w7, Own Slp.cells 38 (w4.heap.size + 2) 27 w7 v' (Lk ++ [notedS x]) → wq.grownBy w7 uk.ownBlock → (v'.ownBlock = uk.ownBlock ∨ v'.ownBlock = some (wq.heap.size + 1)) →
            Blk w7 (n + 1) 22 [uk] ∧ Blk w7 n6 51 XC ∧ Blk (w7.setCell ⟨n + 1, 0, none⟩ v') n6 51 XC ∧ ∃ uk', Keep ((n + 1) :: u.ownBlock.toList) w6 (w7.setCell ⟨n + 1, 0, none⟩ v') ∧ Blk (w7.setCell ⟨n + 1, 0, none⟩ v') (n + 1) 22 [uk'] ∧ Own Slp.cells 38 (w4.heap.size + 2) 27 (w7.setCell ⟨n + 1, 0, none⟩ v') uk' (Lk ++ [notedS x]) ∧ (uk'.ownBlock = u.ownBlock ∨ ∀ g, uk'.ownBlock = some g → w6.heap.size ≤ g) from by
          intro wq kq v' w7 ho hg hat; have hul : ∀ g, uk.ownBlock = some g → w4.heap.size + 2 ≤ g := fun g hg => (HU.out.2.1.lt g hg).1
          have k7 : Keep uk.ownBlock.toList wq w7 := Keep.grown' hg (fun k hk _ => by rw [hk]; simp); have hmn : n + 1 ∉ uk.ownBlock.toList := by simp; intro e; have := hul _ e; have := HN4.out; omega
          have b7 := k7.blk (kq.blk HL6.out.1 (by simp)) hmn; have bx7 := k7.blk (kq.blk HL6.out.2.1 (by simp)) (by simp; intro e; exact hbu _ e rfl); have kS : Keep [n + 1] w7 (w7.setCell ⟨n + 1, 0, none⟩ v') := (Keep.refl _ _).setCell _ _ (by simp); have hsz : w6.heap.size ≤ wq.heap.size := Nat.le_trans HL6.out.2.2.2.2.size kq.size; refine ⟨b7, bx7, bx7.setOther (by simpa using Ne.symm hbm) _, v', ?_, b7.set 0 v', ho.keep kS (fun g hg => by have := (ho.lt g hg).1; have := HN4.out; simp; omega), ?_⟩
          · refine ((HL6.out.2.2.2.2.trans (kq.mono (by simp))).trans' k7 (fun y hy hl => ?_)).trans (kS.mono (by simp)); simp at hy; rcases HU.out.2.2 with e | e
            · rw [e] at hy; simp [hy]
            · have := e y hy; omega
          · rcases hat with e | e
            · rw [e]; exact HU.out.2.2
            · exact .inr (fun g hg => by rw [e] at hg; injection hg with hg; omega))
        clear bv kv hbu hbm hn6 HU hlnn; refine wp_region_held_drew (S := fun w' => Blk w' n6 51 XC) (by kernel_rfl) ((HL6.out.2.1.drew)) (fun hHeld => ?_); refine gZ 1 n6 0 (XC) (fun w' hSw => hSw.rng) (by rw [HXL.out]; kernel_rfl) ?_; (try simp only [sq]); refine wpAnyH_ready (rs := [0, 2]) (by kernel_rfl) (by simp) (AllReadyH.cons rfl (fun K hK => ?_) (AllReadyH.cons rfl (fun K hK => ?_) AllReadyH.nil))
        · go_simp; refine hK.out _ _ (hHeld) (fun hHeld => ?_); clear hK K; (try simp only [sq]); refine gR 2 rfl (fun K hK => ?_); go_simp; refine (HNO.out _).mono ?_; rintro e wq ⟨rfl, kq⟩; have KQ := Lib.hid (KD.out.trans kq); clear kq; have cq := (KQ.out.blk HL6.out.1 (by simp)).get (k := 0) rfl; have bq := KQ.out.blk HL6.out.2.1 (by simp); (try go_simp); refine hK.out _ _ (bq) (fun hHeld => ?_); clear hK K; (try simp only [sq]); refine gR 3 rfl (fun K hK => ?_); rw [if_pos (by rfl)]; refine wp_buildOne 22 27 (.tmp 33) rfl Hs (by omega) (by omega) Tryz.underlying22 NC HNC.out.2.1 (by rfl) ?_; have cqa := ((KQ.out.alloc (.cells NC.toArray 27)).blk HL6.out.1 (by simp)).get (k := 0) rfl; refine hK.out _ _ (bq.alloc _) (fun hHeld => ?_); clear hK K; (try simp only [sq]); refine gR 4 rfl (fun K hK => ?_); rw [if_pos (by rfl)]; refine wp_append2 (.tmp 31) (.tmp 34) 22 rfl is _ 104 Tryz.underlying22 Hs (by rfl) (by decide) Slp.cells_length Slp.one wq (Nat.le_trans HL6.out.2.2.2.1 KQ.out.size) (by rfl) (HL6.out.2.2.1.keep0 KQ.out) (notedS x) _ HNC.out.1.symm _ (by rfl) (by show _ + 1 ≤ 9223372036854775807; omega) (by omega) ?_; intro v' w7 hown' hgr hat; obtain ⟨sa, sc, hv7, _⟩ := hown'.shape; rw [HLN.out] at hv7; subst hv7; have H7 := Lib.hid (HADD.out wq KQ.out _ w7 hown' hgr hat); clear hown' hgr hat; have c7 := H7.out.1.get (k := 0) rfl; have f7 := H7.out.1.frozen 0; refine hK.out _ _ (H7.out.2.1) (fun hHeld => ?_); clear hK K; (try simp only [sq]); refine gR 5 rfl (fun K hK => ?_); go_simp; refine hK.out _ _ (H7.out.2.2.1) (fun hHeld => ?_); clear hK K; (try simp only [sq]); refine wpAnyH_done (by kernel_rfl) ?_ _; obtain ⟨uk', hc1, hc2⟩ := H7.out.2.2.2; have HC := Lib.hid (And.intro hc1 hc2); clear hc1 hc2; go_wp2_with fail
          go_roundg (T.length - (k + 1))
          case measure => omega
          case rel => exact ⟨k + 1, uk', by go_num, by omega, rfl, Lib.hid HC.out.1, Lib.hid ⟨HC.out.2.1, by rw [HTK.out, ← List.append_assoc, HLK.out]; exact HC.out.2.2.1, HC.out.2.2.2⟩⟩
        · go_simp; refine (HNO.out _).mono ?_; rintro e wq ⟨rfl, kq⟩; have KQ := Lib.hid (KD.out.trans kq); clear kq; have cq := (KQ.out.blk HL6.out.1 (by simp)).get (k := 0) rfl; have bq := KQ.out.blk HL6.out.2.1 (by simp); (try go_simp); refine hK.out _ _ (bq) (fun hHeld => ?_); clear hK K; (try simp only [sq]); refine wpAnyH_ready (rs := [0, 3]) (by kernel_rfl) (by simp) (AllReadyH.cons rfl (fun K hK => ?_) (AllReadyH.cons rfl (fun K hK => ?_) AllReadyH.nil))
          · go_simp; refine hK.out _ _ (hHeld) (fun hHeld => ?_); clear hK K; (try simp only [sq]); refine gR 3 rfl (fun K hK => ?_); rw [if_pos (by rfl)]; refine wp_buildOne 22 27 (.tmp 33) rfl Hs (by omega) (by omega) Tryz.underlying22 NC HNC.out.2.1 (by rfl) ?_; have cqa := ((KQ.out.alloc (.cells NC.toArray 27)).blk HL6.out.1 (by simp)).get (k := 0) rfl; refine hK.out _ _ (bq.alloc _) (fun hHeld => ?_); clear hK K; (try simp only [sq]); refine gR 4 rfl (fun K hK => ?_); rw [if_pos (by rfl)]; refine wp_append2 (.tmp 31) (.tmp 34) 22 rfl is _ 104 Tryz.underlying22 Hs (by rfl) (by decide) Slp.cells_length Slp.one wq (Nat.le_trans HL6.out.2.2.2.1 KQ.out.size) (by rfl) (HL6.out.2.2.1.keep0 KQ.out) (notedS x) _ HNC.out.1.symm _ (by rfl) (by show _ + 1 ≤ 9223372036854775807; omega) (by omega) ?_; intro v' w7 hown' hgr hat; obtain ⟨sa, sc, hv7, _⟩ := hown'.shape; rw [HLN.out] at hv7; subst hv7; have H7 := Lib.hid (HADD.out wq KQ.out _ w7 hown' hgr hat); clear hown' hgr hat; have c7 := H7.out.1.get (k := 0) rfl; have f7 := H7.out.1.frozen 0; refine hK.out _ _ (H7.out.2.1) (fun hHeld => ?_); clear hK K; (try simp only [sq]); refine gR 5 rfl (fun K hK => ?_); go_simp; refine hK.out _ _ (H7.out.2.2.1) (fun hHeld => ?_); clear hK K; (try simp only [sq]); refine wpAnyH_done (by kernel_rfl) ?_ _; obtain ⟨uk', hc1, hc2⟩ := H7.out.2.2.2; have HC := Lib.hid (And.intro hc1 hc2); clear hc1 hc2; go_wp2_with fail
            go_roundg (T.length - (k + 1))
            case measure => omega
            case rel => exact ⟨k + 1, uk', by go_num, by omega, rfl, Lib.hid HC.out.1, Lib.hid ⟨HC.out.2.1, by rw [HTK.out, ← List.append_assoc, HLK.out]; exact HC.out.2.2.1, HC.out.2.2.2⟩⟩
          · rw [if_pos (by rfl)]; refine wp_buildOne 22 27 (.tmp 33) rfl Hs (by omega) (by omega) Tryz.underlying22 NC HNC.out.2.1 (by rfl) ?_; have cqa := ((KQ.out.alloc (.cells NC.toArray 27)).blk HL6.out.1 (by simp)).get (k := 0) rfl; refine hK.out _ _ (bq.alloc _) (fun hHeld => ?_); clear hK K; (try simp only [sq]); refine gR 0 rfl (fun K hK => ?_); go_simp; refine hK.out _ _ (hHeld) (fun hHeld => ?_); clear hK K; (try simp only [sq]); refine gR 4 rfl (fun K hK => ?_); rw [if_pos (by rfl)]; refine wp_append2 (.tmp 31) (.tmp 34) 22 rfl is _ 104 Tryz.underlying22 Hs (by rfl) (by decide) Slp.cells_length Slp.one wq (Nat.le_trans HL6.out.2.2.2.1 KQ.out.size) (by rfl) (HL6.out.2.2.1.keep0 KQ.out) (notedS x) _ HNC.out.1.symm _ (by rfl) (by show _ + 1 ≤ 9223372036854775807; omega) (by omega) ?_; intro v' w7 hown' hgr hat; obtain ⟨sa, sc, hv7, _⟩ := hown'.shape; rw [HLN.out] at hv7; subst hv7; have H7 := Lib.hid (HADD.out wq KQ.out _ w7 hown' hgr hat); clear hown' hgr hat; have c7 := H7.out.1.get (k := 0) rfl; have f7 := H7.out.1.frozen 0; refine hK.out _ _ (H7.out.2.1) (fun hHeld => ?_); clear hK K; (try simp only [sq]); refine gR 5 rfl (fun K hK => ?_); go_simp; refine hK.out _ _ (H7.out.2.2.1) (fun hHeld => ?_); clear hK K; (try simp only [sq]); refine wpAnyH_done (by kernel_rfl) ?_ _; obtain ⟨uk', hc1, hc2⟩ := H7.out.2.2.2; have HC := Lib.hid (And.intro hc1 hc2); clear hc1 hc2; go_wp2_with fail
            go_roundg (T.length - (k + 1))
            case measure => omega
            case rel => exact ⟨k + 1, uk', by go_num, by omega, rfl, Lib.hid HC.out.1, Lib.hid ⟨HC.out.2.1, by rw [HTK.out, ← List.append_assoc, HLK.out]; exact HC.out.2.2.1, HC.out.2.2.2⟩⟩
      · have hke : k = T.length := by omega
        have f1 : decide ((k : Int) < (T.length : Nat)) = false := decide_eq_false (by omega); subst hke; rw [List.take_length] at HU; have hrl : (RL ++ T.map notedS).length ≤ 128 := by rw [List.length_append, List.length_map]; have := HRL.out; omega
        obtain ⟨ua, uc, hus, _⟩ := HU.out.2.1.shape; generalize hll : (RL ++ T.map notedS).length = ll at hus; subst hus; have c0 := HU.out.1.get (k := 0) rfl; have f0 := HU.out.1.frozen 0; obtain ⟨w7, hw7⟩ : ∃ z, wr.setCell ⟨n + 1, 0, none⟩ (.slice ua ll uc) = z := ⟨_, rfl⟩
        have kS : Keep [n + 1] wr w7 := by rw [← hw7]; exact (Keep.refl _ _).setCell _ _ (by simp)
        have b7 : Blk w7 (n + 1) 22 [.slice ua ll uc] := by rw [← hw7]; exact HU.out.1.set 0 _
        have hn4 := HN4.out; have o7 := HU.out.2.1.keep kS (fun g hg => by have := (HU.out.2.1.lt g hg).1; simp; omega); have hd6 := (Array.getElem?_eq_some_iff.1 HE6.out.2.2.1).1
        have d7 : w7.heap[w4.heap.size]? = some (.deferred (some [])) := by
          rw [kS.block _ (Nat.lt_of_lt_of_le hd6 HK.out.size) (by simp; omega), HK.out.block _ hd6 (fun hm => by rcases HLT.out _ hm with e | e <;> omega)]; exact HE6.out.2.2.1
        have kp : Keep [w4.heap.size] w7 (w7.putObj w4.heap.size (.deferred none)) := ⟨rfl, rfl, rfl, by simp [World.putObj], fun j _ hj => World.putObj_heap_other (by simpa using fun e : j = w4.heap.size => hj (by simp [e]))⟩
        have HF := Lib.hid (show Own Slp.cells 38 w.heap.size 27 (w7.putObj w4.heap.size (.deferred none)) (.slice ua ll uc) (slipsOf T R) ∧ Keep [] w (w7.putObj w4.heap.size (.deferred none)) ∧ (w7.putObj w4.heap.size (.deferred none)).cell? ⟨n + 1, 0, none⟩ = some (.slice ua ll uc) from by
          have hnn := HNN.out; refine ⟨?_, ?_, (kp.blk b7 (by simp; omega)).get rfl⟩
          · unfold slipsOf; rw [HRLD.out]; exact (o7.keep kp (fun g hg => by have := (o7.lt g hg).1; simp; omega)).lower (by omega)
          · have z4 := HK04.out.size; refine (((HK04.out.trans' HE6.out.2.2.2.2 (fun x hx hl => ?_)).trans' HK.out (fun x hx hl => ?_)).trans' kS (fun x hx hl => ?_)).trans' kp (fun x hx hl => ?_)
            · simp at hx; omega
            · rcases HLT.out x hx with e | e <;> omega
            · simp at hx; omega
            · simp at hx; omega)
        have HD7 := Lib.hid d7; have HW7 := Lib.hid hw7; clear kS b7 o7 d7 kp hll HU HK hw7; go_wp2_with fail; rw [HW7.out]; show bodyPostM _ _ _ _ _ Exit.ret _ _; refine ⟨by simp, .inl ⟨_, _, rfl, run_takeDeferred HD7.out, ?_⟩⟩; have hc5 := HF.out.2.2; refine ⟨.slice ua ll uc, ?_, _, rfl, HF.out.1, HF.out.2.1⟩; simp [results, Tryz.f47, go_sem, hc5]
end Go.Proofs.YtkghgaopcgcheaaGreatDoor
namespace Go.Proofs.YtkghgaopcgcheaaGreatDoor
open Go.RowKit Go.Maps
theorem St.start {w : World} {t r : Nat} {B : Int} {SA SB : List Nat} {w0 w1 : World} (h1 : Rk SB w1 r B []) (hb : ∀ k ∈ SB, w0.heap.size ≤ k) (k1 : Keep [] w0 w1) (h2 : Tb SA w t 64 []) (ha : ∀ k ∈ SA, w1.heap.size ≤ k) (k2 : Keep [] w1 w) :
    ∃ Y, St Y w t r B [] [] ∧ ∀ k ∈ Y, w0.heap.size ≤ k := by
  have h1c := h1.cut; refine ⟨cutS SA w ++ cutS SB w1, ⟨_, _, rfl, h2.cut, h1c.keep0 k2, fun x hx hm => ?_, fun x hx => ?_⟩, fun x hx => ?_⟩
  · have := ha x (mem_cutS.1 hx).1; have := (mem_cutS.1 hm).2; omega
  · rcases List.mem_append.1 hx with hx | hx
    · exact (mem_cutS.1 hx).2
    · exact Nat.lt_of_lt_of_le (mem_cutS.1 hx).2 k2.size
  · rcases List.mem_append.1 hx with hx | hx
    · exact Nat.le_trans k1.size (ha x (mem_cutS.1 hx).1)
    · exact hb x (mem_cutS.1 hx).1
theorem stock_fresh (B : Int) (w : World) (h0 : 0 ≤ B) (h1 : B ≤ 1099511627776) :
    Calls Tryz.prog 40 #[.int .i64 B] w fun e w' => ∃ t r Y, e = .returned (.tuple #[.agg #[.pointer (some ⟨t, 0, none⟩), .pointer (some ⟨r, 0, none⟩)], .int .i64 0]) ∧ St Y w' t r B [] [] ∧ (∀ k ∈ Y, w.heap.size ≤ k) ∧ Keep [] w w' := by
  obtain ⟨n, hn⟩ : ∃ n, w.heap.size = n := ⟨_, rfl⟩
  have k1 := (Keep.refl [] w).alloc (.cells #[.pointer none, .pointer none] 83); have b1 := Blk.newA w #[.pointer none, .pointer none] 83; rw [hn] at b1; have HRK := Lib.hid (fun w' => rack_New B w' h0 h1); go_enter Tryz.func40, Tryz.ntmps40
  go_upto_region 1 with fail
  (try simp only [hn]); generalize w.alloc (.cells #[.pointer none, .pointer none] 83) = w1 at k1 b1 ⊢; have H1 := Lib.hid (And.intro k1 b1); have HN := Lib.hid hn; clear k1 b1 hn h0 h1; go_wp2_with fail; refine (HRK.out w1).mono ?_; rintro e w2 ⟨r, SB, rfl, hrk, hsb, k2⟩; have H2 := Lib.hid (And.intro hrk (And.intro hsb k2)); clear hrk hsb k2; go_wp2_with fail; refine (ticket_New w2).mono ?_; rintro e w3 ⟨t, rfl, SA, htb, k3, hsa⟩; obtain ⟨Y, hst, hY⟩ := St.start H2.out.1 (fun k hk => H2.out.2.1 k hk) H2.out.2.2 htb hsa k3; have b3 := k3.blk (H2.out.2.2.blk H1.out.2 (by simp)) (by simp); have c0 := b3.get (k := 0) rfl; have c1 := b3.get (k := 1) rfl; have f0 := b3.frozen 0; have f1 := b3.frozen 1; have hlt := H1.out.1.size; have kk : Keep [n] w3 ((w3.setCell ⟨n, 0, none⟩ (.pointer (some ⟨t, 0, none⟩))).setCell ⟨n, 1, none⟩ (.pointer (some ⟨r, 0, none⟩))) := ((Keep.refl _ _).setCell _ _ (by simp)).setCell _ _ (by simp)
  have H3 := Lib.hid (show St Y ((w3.setCell ⟨n, 0, none⟩ (.pointer (some ⟨t, 0, none⟩))).setCell ⟨n, 1, none⟩ (.pointer (some ⟨r, 0, none⟩))) t r B [] [] ∧ (∀ k ∈ Y, w.heap.size ≤ k) ∧ Keep [] w ((w3.setCell ⟨n, 0, none⟩ (.pointer (some ⟨t, 0, none⟩))).setCell ⟨n, 1, none⟩ (.pointer (some ⟨r, 0, none⟩))) from
    ⟨hst.keep kk (fun x hx => by have := hY x hx; have := H1.out.2.lt; simp; omega), fun k hk => Nat.le_trans hlt (hY k hk), (H1.out.1.trans (H2.out.2.2.trans k3)).trans' kk (fun x hx hl => by have := HN.out; simp at hx; omega)⟩)
  have bz := (b3.set 0 (.pointer (some ⟨t, 0, none⟩))).set 1 (.pointer (some ⟨r, 0, none⟩)); have d0 := bz.get (k := 0) rfl; have d1 := bz.get (k := 1) rfl; clear hst hY k3 hsa htb kk; go_wp2_with fail; have hload := run_loadVar_mid (P := Tryz.prog) ((w3.setCell ⟨n, 0, none⟩ (.pointer (some ⟨t, 0, none⟩))).setCell ⟨n, 1, none⟩ (.pointer (some ⟨r, 0, none⟩))) n 0 83 [.pointer (some ⟨t, 0, none⟩), .pointer (some ⟨r, 0, none⟩)] _ bz.rng Tryz.underlying83 rfl (by kernel_rfl); exact bodyPost_ret (v := .tuple #[.agg #[.pointer (some ⟨t, 0, none⟩), .pointer (some ⟨r, 0, none⟩)], .int .i64 0]) (by simp [Act.put, results, Tryz.results40, asAddr, Result.andThen, hload]) rfl ⟨t, r, Y, rfl, H3.out⟩
def repF (s : List Tik × List Jar) (x : Slp) : List Tik × List Jar := if goodS x = true then (applyT x s.1, applyR x s.2) else s
def rep (L : List Slp) : List Tik × List Jar := L.foldl repF ([], [])
theorem rep_take {L : List Slp} {k : Nat} {x : Slp} (h : L[k]? = some x) : rep (L.take (k + 1)) = repF (rep (L.take k)) x := by
  have e : L.take (k + 1) = L.take k ++ [x] := by rw [List.take_add_one, h]; rfl
  rw [e]; simp [rep]
theorem stock_replay (L : List Slp) (v : Value) (B : Int) (w : World) (hs : Sl Slp.cells 38 w v L) (hin : ∀ x ∈ L, slipIn x) (hl : L.length ≤ 1000000) (h0 : 0 ≤ B) (h1 : B ≤ 1099511627776) :
    Calls Tryz.prog 36 #[v, .int .i64 B] w fun e w' => ∃ t r Y, e = .returned (.tuple #[.agg #[.pointer (some ⟨t, 0, none⟩), .pointer (some ⟨r, 0, none⟩)], .int .i64 0]) ∧ St Y w' t r B (rep L).1 (rep L).2 ∧ (∀ k ∈ Y, w.heap.size ≤ k) ∧ Keep [] w w' := by
  obtain ⟨aa, ca, rfl, hcap⟩ := hs.shape; obtain ⟨n, hn⟩ : ∃ n, w.heap.size = n := ⟨_, rfl⟩
  have k1 := (Keep.refl [] w).alloc (.cells #[.pointer none, .pointer none] 83); have b1 := Blk.newA w #[.pointer none, .pointer none] 83; rw [hn] at b1; have HFR := Lib.hid (fun w' => stock_fresh B w' h0 h1); have HS := Lib.hid hs; have HIN := Lib.hid hin; go_enter Tryz.func36, Tryz.ntmps36
  go_upto_region 1 with fail
  (try simp only [hn]); generalize w.alloc (.cells #[.pointer none, .pointer none] 83) = w1 at k1 b1 ⊢; have H1 := Lib.hid (And.intro k1 b1); have HN := Lib.hid hn; clear k1 b1 hn h0 h1 hs hin hcap; go_wp2_with fail; refine (HFR.out w1).mono ?_; rintro e w2 ⟨t, r, Y, rfl, hst, hY, k2⟩; obtain ⟨m, hm⟩ : ∃ m, w2.heap.size = m := ⟨_, rfl⟩
  have H2 := Lib.hid (And.intro hst (And.intro hY k2)); have b3 := Blk.newA w2 #[.pointer (some ⟨t, 0, none⟩), .pointer (some ⟨r, 0, none⟩)] 83; have k3 := (Keep.refl [] w2).alloc (.cells #[.pointer (some ⟨t, 0, none⟩), .pointer (some ⟨r, 0, none⟩)] 83); rw [hm] at b3; clear hst hY k2
  go_upto_region 2 with fail
  try simp only [hm]
  trace_state
  generalize w2.alloc (.cells #[.pointer (some ⟨t, 0, none⟩), .pointer (some ⟨r, 0, none⟩)] 83) = w3 at b3 k3 ⊢; have hYlt : ∀ x ∈ Y, x < w2.heap.size := by obtain ⟨A, C, rfl, _, _, _, h4⟩ := H2.out.1; exact h4
  have hn1 : n < w1.heap.size := H1.out.2.lt
  have H3 := Lib.hid (show St Y w3 t r B [] [] ∧ Keep [] w w3 ∧ Blk w3 m 83 [.pointer (some ⟨t, 0, none⟩), .pointer (some ⟨r, 0, none⟩)] ∧ Blk w3 n 83 [.pointer none, .pointer none] ∧ (∀ x ∈ Y, n < x ∧ x < m) ∧ n < m from
    ⟨H2.out.1.keep0 k3, H1.out.1.trans (H2.out.2.2.trans k3), b3, k3.blk (H2.out.2.2.blk H1.out.2 (by simp)) (by simp), fun x hx => ⟨Nat.lt_of_lt_of_le hn1 (H2.out.2.1 x hx), by rw [← hm]; exact hYlt x hx⟩, by have := H2.out.2.2.size; omega⟩)
  clear b3 k3 hm H2 hYlt hn1 H1; go_wp2_with fail
  go_loopg [21] L.length (fun g i wr => ∃ (k : Nat) (Y' : List Nat), i = .int .i64 k ∧ k ≤ L.length ∧ g = L.length - k ∧ Hid (St Y' wr t r B (rep (L.take k)).1 (rep (L.take k)).2 ∧ Grow Y w3 Y' wr ∧ Keep [] w wr))
  case atStart => exact ⟨0, Y, rfl, Nat.zero_le _, by omega, Lib.hid ⟨by simpa [rep] using H3.out.1, Grow.refl _ _, H3.out.2.1⟩⟩
  case round =>
    obtain ⟨k, Y', rfl, hk, hgk, HI⟩ := hrel; have hmY : m ∉ Y := fun hm => by have := (H3.out.2.2.2.2.1 m hm).2; omega
    have hnY : n ∉ Y := fun hm => by have := (H3.out.2.2.2.2.1 n hm).1; omega
    by_cases hlt : k < L.length
    · obtain ⟨x, hx⟩ : ∃ x, L[k]? = some x := ⟨_, List.getElem?_eq_getElem hlt⟩
      obtain ⟨ba, oa, ca', hva, hrg⟩ := (HS.out.keep Slp.cells_length (by omega) HS.out HI.out.2.2 (by simp) (Nat.le_refl _)).rng Slp.cells_length hx; cases hva; have hxi := HIN.out x (List.mem_of_getElem? hx); obtain ⟨XC, hXC⟩ : ∃ z, x.cells = z := ⟨_, rfl⟩
      have HXC := Lib.hid (show XC.length = 38 ∧ ∀ v ∈ XC, v.oneCell' = true from ⟨by rw [← hXC]; exact Slp.cells_length _, by rw [← hXC]; exact Slp.one _⟩); have HGD := Lib.hid (fun w' => slip_Good x w' hxi); have HAP := Lib.hid (fun (Y : List Nat) w' T R (h : St Y w' t r B T R) => state_apply x XC hXC hxi w' h); rw [hXC] at hrg HGD; have HR := Lib.hid hrg; have HRT := Lib.hid (rep_take hx); have f1 : decide ((k : Int) < (L.length : Nat)) = true := decide_eq_true (by omega); have wk := IntWalk.i64_in ((k : Int) + 1) (by omega); clear hrg hXC hx hxi
      go_upto_region 7 with (first | ((with_reducible refine gL 24 23 ?_); refine gl ba (oa + k * 38) XC HR.out (by rw [HXC.out.1]; kernel_rfl) ?_; try simp only [sq]) | ((with_reducible refine gS 9 24 ?_); refine wpList_store_new rfl 27 (.tmp 9) (.tmp 24) rfl _ XC (by rfl) (by rfl) (by rw [HXC.out.1]; kernel_rfl) (by rw [HXC.out.1]; kernel_rfl) HXC.out.2 ?_) | fail)
      obtain ⟨n9, hn9⟩ : ∃ z, wr.heap.size = z := ⟨_, rfl⟩
      have bv := Blk.new wr XC 27; have kv := (Keep.refl [] wr).alloc (.cells XC.toArray 27); rw [hn9] at bv; (try rw [hn9]); generalize wr.alloc (.cells XC.toArray 27) = wv at bv kv ⊢; have HV := Lib.hid (show St Y' wv t r B (rep (L.take k)).1 (rep (L.take k)).2 ∧ Grow Y w3 Y' wv ∧ Keep [] w wv ∧ Blk wv n9 27 XC from ⟨HI.out.1.keep0 kv, HI.out.2.1.then kv, HI.out.2.2.trans kv, bv⟩); clear bv kv hn9 HI
      cases hgx : goodS x with
      | false =>
        rw [hgx] at HGD; unfold repF at HRT; rw [hgx, if_neg (by simp)] at HRT; clear hgx hmY hnY
        go_wp2_with (first | ((with_reducible refine gL 25 9 ?_); refine gl n9 0 XC HV.out.2.2.2.rng (by rw [HXC.out.1]; kernel_rfl) ?_; try simp only [sq]) | fail); refine (HGD.out _).mono ?_; rintro e w5 ⟨rfl, k5⟩; have H5 := Lib.hid (show St Y' w5 t r B (rep (L.take (k + 1))).1 (rep (L.take (k + 1))).2 ∧ Grow Y w3 Y' w5 ∧ Keep [] w w5 from ⟨by rw [HRT.out]; exact HV.out.1.keep0 k5, HV.out.2.1.then k5, HV.out.2.2.1.trans k5⟩); clear k5; go_wp2_with fail
        go_roundg (L.length - (k + 1))
        case measure => omega
        case rel => exact ⟨k + 1, Y', by go_num, by omega, rfl, H5⟩
      | true =>
        rw [hgx] at HGD; unfold repF at HRT; rw [hgx, if_pos rfl] at HRT; clear hgx
        go_wp2_with (first | ((with_reducible refine gL 25 9 ?_); refine gl n9 0 XC HV.out.2.2.2.rng (by rw [HXC.out.1]; kernel_rfl) ?_; try simp only [sq]) | fail); refine (HGD.out _).mono ?_; rintro e w5 ⟨rfl, k5⟩; have b5 := (HV.out.2.1.then k5).1.blk H3.out.2.2.1 hmY; have c0 := b5.get (k := 0) rfl; have c1 := b5.get (k := 1) rfl; have H5 := Lib.hid (show St Y' w5 t r B (rep (L.take k)).1 (rep (L.take k)).2 ∧ Grow Y w3 Y' w5 ∧ Keep [] w w5 ∧ Blk w5 n9 27 XC from ⟨HV.out.1.keep0 k5, HV.out.2.1.then k5, HV.out.2.2.1.trans k5, k5.blk HV.out.2.2.2 (by simp)⟩); clear k5 b5 HV
        go_wp2_with (first | ((with_reducible refine gL 28 9 ?_); refine gl n9 0 XC H5.out.2.2.2.rng (by rw [HXC.out.1]; kernel_rfl) ?_; try simp only [sq]) | fail); refine (HAP.out _ _ _ _ H5.out.1).mono ?_; rintro e w6 ⟨rfl, Y6, s6, g6⟩; have H6 := Lib.hid (show St Y6 w6 t r B (rep (L.take (k + 1))).1 (rep (L.take (k + 1))).2 ∧ Grow Y w3 Y6 w6 ∧ Keep [] w w6 from ⟨by rw [HRT.out]; exact s6, H5.out.2.1.trans g6, H3.out.2.1.trans' (H5.out.2.1.trans g6).1 (fun y hy hl => by have := HN.out; have := (H3.out.2.2.2.2.1 y hy).1; omega)⟩); clear s6 g6 c0 c1; go_wp2_with fail
        go_roundg (L.length - (k + 1))
        case measure => omega
        case rel => exact ⟨k + 1, Y6, by go_num, by omega, rfl, H6⟩
    · have hke : k = L.length := by omega
      have f1 : decide ((k : Int) < (L.length : Nat)) = false := decide_eq_false (by omega); subst hke; rw [List.take_length] at HI; have b5 := HI.out.2.1.1.blk H3.out.2.2.1 hmY; have b6 := HI.out.2.1.1.blk H3.out.2.2.2.1 hnY; have c0 := b5.get (k := 0) rfl; have c1 := b5.get (k := 1) rfl; have d0 := b6.get (k := 0) rfl; have d1 := b6.get (k := 1) rfl; have f0 := b6.frozen 0; have f2 := b6.frozen 1; have kk : Keep [n] wr ((wr.setCell ⟨n, 0, none⟩ (.pointer (some ⟨t, 0, none⟩))).setCell ⟨n, 1, none⟩ (.pointer (some ⟨r, 0, none⟩))) := ((Keep.refl _ _).setCell _ _ (by simp)).setCell _ _ (by simp); have bz := (b6.set 0 (.pointer (some ⟨t, 0, none⟩))).set 1 (.pointer (some ⟨r, 0, none⟩)); have hnY' : n ∉ Y' := HI.out.2.1.out' hnY H3.out.2.2.2.1.lt
      have HF := Lib.hid (show St Y' ((wr.setCell ⟨n, 0, none⟩ (.pointer (some ⟨t, 0, none⟩))).setCell ⟨n, 1, none⟩ (.pointer (some ⟨r, 0, none⟩))) t r B (rep L).1 (rep L).2 ∧ (∀ k ∈ Y', w.heap.size ≤ k) ∧ Keep [] w ((wr.setCell ⟨n, 0, none⟩ (.pointer (some ⟨t, 0, none⟩))).setCell ⟨n, 1, none⟩ (.pointer (some ⟨r, 0, none⟩))) from
        ⟨HI.out.1.keep kk (fun x hx => by simp; rintro rfl; exact hnY' hx), fun y hy => by
          have hn0 := HN.out; rcases HI.out.2.1.2 y hy with e | e
          · have := (H3.out.2.2.2.2.1 y e).1; omega
          · have := H3.out.2.1.size; omega, HI.out.2.2.trans' kk (fun x hx hl => by have := HN.out; simp at hx; omega)⟩)
      clear b5 kk hnY' HI hmY hnY; go_wp2_with fail; have hload := run_loadVar_mid (P := Tryz.prog) ((wr.setCell ⟨n, 0, none⟩ (.pointer (some ⟨t, 0, none⟩))).setCell ⟨n, 1, none⟩ (.pointer (some ⟨r, 0, none⟩))) n 0 83 [.pointer (some ⟨t, 0, none⟩), .pointer (some ⟨r, 0, none⟩)] _ bz.rng Tryz.underlying83 rfl (by kernel_rfl); exact bodyPost_ret (v := .tuple #[.agg #[.pointer (some ⟨t, 0, none⟩), .pointer (some ⟨r, 0, none⟩)], .int .i64 0]) (by simp [Act.put, results, Tryz.results36, asAddr, Result.andThen, hload]) rfl ⟨t, r, Y', rfl, HF.out⟩
end Go.Proofs.YtkghgaopcgcheaaGreatDoor
