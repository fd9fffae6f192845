/- Parts of the proof of StockReplays, in order. No conditions but those that each theorem states. -/
import Derived.Test.YtkghgaopcgcheaaGreatDoorYStockReplays0
import Derived.Maps.Ext
import Derived.Sort.KeysCollected
import Derived.Lib.LaidTab
import Derived.Deep.LoopGhost
import Derived.Deep.Cut
import Derived.Deep.CutRange
import Derived.Deep.DeepCutAuto
import Derived.OwnWalk
import Derived.Test.YtkghgaopcgcheaaGreatDoorYStockReplays6
set_option maxRecDepth 100000
set_option maxHeartbeats 16000000
set_option linter.unusedSimpArgs false
set_option linter.unusedVariables false
namespace Go.Proofs.YtkghgaopcgcheaaGreatDoor
open Go.RowKit Go.Maps
section
variable {tv : Value}
theorem put_done2Q {w wq w3 : World} {u B l c : Nat} {v v3 : Value} {M L : List Jar} {budget : Int} (hk : Keep [] w wq) (hb : Blk wq u 40 [tv, .int .i64 64, v, .int .i64 budget]) (hu : u < w.heap.size) (hB : w.heap.size ≤ B)
    (hown : Own Jar.cells 35 0 63 w3 v3 M) (hg : wq.grownBy w3 (Value.slice (some ⟨B, 0, none⟩) l c).ownBlock) (hat : v3.ownBlock = (Value.slice (some ⟨B, 0, none⟩) l c).ownBlock ∨ v3.ownBlock = some wq.heap.size) (hM : M = L) :
    DoneQ tv w (w3.setCell ⟨u, 2, none⟩ v3) u v L budget := by
  subst hM; have hs := hk.size
  have hn : ∀ g, v3.ownBlock = some g → w.heap.size ≤ g := fun g hg' => by
    rcases hat with e | e
    · rw [e] at hg'; simp [Value.ownBlock] at hg'; omega
    · rw [e] at hg'; simp at hg'; omega
  have hb3 : Blk w3 u 40 _ := (hg.block u (by have := hb.lt; exact this) (fun e => by simp [Value.ownBlock] at e; omega)).trans hb; have hk3 : Keep [] w w3 := hk.grown hg (fun g hg' hlt => by simp [Value.ownBlock] at hg'; omega); have hks : Keep [u] w3 (w3.setCell ⟨u, 2, none⟩ v3) := (Keep.refl _ _).setCell _ _ (by simp); refine ⟨v3, ⟨hb3.set 2 _, hown.keep hks (fun g hg' => by simp; have := hn g hg'; omega), fun e => by have := hn u e; omega⟩, ?_, fun g hg' => .inr (hn g hg')⟩; exact (hk3.mono (by simp)).setCell _ _ (fun _ => by simp)
theorem ref_Touch21Q (u : Nat) (v : Value) (L : List Jar) (budget : Int) (d : Dig) (w : World) (h : Dq tv w u v L budget) (hL : L.length ≤ 64) (k : Nat) (x : Jar) (hk : posL L d = (k : Nat)) (hx : L[k]? = some x) :
    Calls Tryz.prog 65 #[.pointer (some ⟨u, 2, none⟩), .agg (digC d).toArray] w fun e w' => e = .returned (.int .i64 0) ∧ DoneQ tv w w' u v (x :: (L.take k ++ L.drop (k + 1))) budget := by
  have hkl : k < L.length := (List.getElem?_eq_some_iff.1 hx).1; have hb := Blk.newA w (digC d).toArray 25; have hkA := (Keep.refl [] w).alloc (.cells (digC d).toArray 25); generalize hwA : w.alloc (.cells (digC d).toArray 25) = wA at hb hkA; obtain ⟨g', cap, hv, hle, hcm, _⟩ := own_at h.own hx; subst hv; have HDB := Lib.hid (hb.rangeAt); have HP1 := Lib.hid (ref_PlaceQ u _ L budget d wA (h.keep0 hkA)); rw [hk] at HP1; have HD0 := Lib.hid (fun w' (k : Keep [] w w') => h.keep0 k); have HK := Lib.hid hkA; have HDL := Lib.hid (digC_length d); have HU := Lib.hid h.blk.lt; have HJL := Lib.hid (show (Tryz.prog.info? 63).map (·.size) = some x.cells.length by rw [Jar.cells_length]; exact jar_size); have HX1 := Lib.hid x.one; have HXL := Lib.hid (Jar.cells_length x)
  have HR := Lib.hid (fun w' (hk : Keep [] w w') => by
    obtain ⟨g2, cap2, hv2, _, _, hr⟩ := own_at (h.keep0 hk).own hx; cases hv2; exact hr)
  have h0 : ¬ (k : Int) < 0 := by omega
  have h1 : (k : Int) < (L.length : Int) := by omega
  obtain ⟨is, Hs⟩ := jarinfo'; obtain ⟨xc, hxc⟩ : ∃ xc, xc = x.cells := ⟨_, rfl⟩
  have HCS := Lib.hid hxc; rw [← hxc] at HJL HX1 HXL HR; generalize digC d = dc at *; have HHX := Lib.hid hx; clear hb hkA h hxc hx hk hle hcm; go_enter Tryz.func65, Tryz.ntmps65
  go_wp2_with (first | (refine wpList_load_mid rfl 25 (.tmp 3) rfl w.heap.size 0 (by rfl) dc _ HDB.out Tryz.underlying25 rfl (by rw [HDL.out]; exact dig_size) ?_) | fail); refine HP1.out.mono ?_; rintro e w2 ⟨rfl, k2⟩; have K2 := Lib.hid (HK.out.trans k2); have c0 := (HD0.out w2 K2.out).blk.get (k := 2) rfl; have hr2 := HR.out w2 K2.out; have hBX := Blk.newA w2 xc.toArray 63; have hk3 := K2.out.alloc (.cells xc.toArray 63); clear k2
  go_wp2_with (first | (refine wpList_load_mid rfl 63 (.tmp 17) rfl g' (k * 35) (by simp [Act.eval, Addr.add]) xc _ hr2 Tryz.underlying63 rfl HJL.out ?_) | (refine wpList_store_new rfl 63 (.tmp 6) (.tmp 18) rfl _ xc (by rfl) (by rfl) HJL.out (by rw [HXL.out]; rfl) HX1.out ?_) | fail)
  (try simp only [sq]); generalize hw3 : w2.alloc (.cells xc.toArray 63) = w3 at hBX hk3; (try rw [hw3]); clear hw3 c0; have HBX := Lib.hid (fun w' (k : Keep [] w3 w') => (k.blk hBX (by simp)).rangeAt); have HK3 := Lib.hid hk3; have HD := Lib.hid (fun w' (k : Keep [] w3 w') => HD0.out w' (hk3.trans k)); have HN3 := Lib.hid hk3.size; have HW := Lib.hid (fun w' (kk : Keep [] w3 w') => ref_withoutQ u _ L budget k w' (HD0.out w' (hk3.trans kk)) hkl hL); have hlen : (L.take k ++ L.drop (k + 1)).length ≤ 64 := by simp; omega
  obtain ⟨M, hM⟩ : ∃ M, M = L.take k ++ L.drop (k + 1) := ⟨_, rfl⟩
  rw [← hM] at HW hlen; have HMM := Lib.hid hM; clear hM; have j0 := Keep.refl [] w3; clear hBX hk3 hr2; try go_wp2_with fail
  go_cut [] (fun wx => DoneQ tv w wx u (.slice (some ⟨g', 0, none⟩) L.length cap) (x :: M) budget)
  case first =>
    refine wp_region_any (by kernel_rfl) ?_; change wpAny _ _ _ _ _ _ _ (World.drew _); refine wpAny_take (i := 0) (v := ?_) rfl (by kernel_rfl) (by kernel_rfl) (by kernel_rfl) (fun _ _ _ h => h) (Or.inl ⟨by rfl, ?_⟩) ?_; rotate_left
    · (intro w; go_simp) <;> (with_reducible rfl)
    (try simp only [sq]); refine wpAny_take (i := 3) (v := ?_) rfl (by kernel_rfl) (by kernel_rfl) (by kernel_rfl) (fun _ _ _ h => h) (Or.inl ⟨by rfl, ?_⟩) ?_; rotate_left
    · (intro w; go_simp) <;> (with_reducible rfl)
    (try simp only [sq]); refine wpAny_take (i := 4) (v := ?_) rfl (by kernel_rfl) (by kernel_rfl) (by kernel_rfl) (fun _ _ _ h => h) (Or.inl ⟨by rfl, ?_⟩) ?_; rotate_left
    · (intro w; go_simp) <;> (with_reducible rfl)
    (try simp only [sq]); refine wpAny_ready (rs := [1, 5]) (by kernel_rfl) (by simp) ?_; refine AllReady.cons (o := _) rfl (fun K hK0 => ?_) ?_
    · have hK := Lib.hid hK0; clear hK0; refine step_load_mid rfl 63 (.tmp 6) rfl w2.heap.size 0 (by rfl) xc _ (HBX.out _ (by repeat (first | assumption | (with_reducible apply Keep.drew)))) Tryz.underlying63 rfl HJL.out ?_; refine hK.out _ _ ?_; clear hK K; (try simp only [sq]); refine wpAny_ready (rs := [2, 5]) (by kernel_rfl) (by simp) ?_; refine AllReady.cons (o := _) rfl (fun K hK0 => ?_) ?_
      · have hK := Lib.hid hK0; clear hK0; refine step_buildJar2 rfl 29 (.tmp 20) rfl Hs Tryz.underlying29 x xc HCS.out (by rfl) ?_; intro B wB hBe hoB hkB hszB; have hBn : w.heap.size ≤ B := by rw [← hBe]; exact Nat.le_trans HN3.out (Keep.size (w := w3) (by repeat (first | assumption | (with_reducible apply Keep.drew))))
        have kB : Keep [] w3 wB := Keep.trans (by repeat (first | assumption | (with_reducible apply Keep.drew))) hkB; have hoW := Lib.hid hoB; have hkB' := hkB; clear hBe; refine hK.out _ _ ?_; clear hK K; (try simp only [sq]); refine wpAny_ready (rs := [5]) (by kernel_rfl) (by simp) ?_; refine AllReady.cons (o := _) rfl (fun K hK0 => ?_) ?_
        · have hK := Lib.hid hK0; clear hK0; go_simp; refine (HW.out _ (by repeat (first | assumption | (with_reducible apply Keep.drew)))).mono ?_; rintro e wE ⟨vE, rfl, hoE, hvE, hkE⟩; have kE : Keep [] w3 wE := Keep.trans (by repeat (first | assumption | (with_reducible apply Keep.drew))) hkE; try (have hoX := Lib.hid (hoB.keep0 hkE))
          (try go_wp2_with fail); refine hK.out _ _ ?_; clear hK K; (try simp only [sq]); refine wpAny_ready (rs := [6]) (by kernel_rfl) (by simp) ?_; refine AllReady.cons (o := _) rfl (fun K hK0 => ?_) ?_
          · have hK := Lib.hid hK0; clear hK0; refine step_appendM rfl (.tmp 21) (.tmp 24) 29 rfl is _ 64 Tryz.underlying29 Hs (by rfl) (by decide) Jar.cells_length Jar.one (v := .slice (some ⟨B, 0, none⟩) 1 1) (vx := vE) (L := [x]) (by rfl) (by first | exact hoX.out | exact hoW.out) (by rfl) (by first | exact own_src hoE | exact own_src (hoE.keep0 hkB')) (by simp [maxLen]; omega) (by simp; omega) ?_; intro v4 w4 hown4 hg4 hat4; have hb4 : Blk w4 u 40 _ := (hg4.block u ((HD.out _ (by first | exact kE | exact kB)).blk.lt) (fun e => by have := HU.out; simp [Value.ownBlock] at e; omega)).trans (HD.out _ (by first | exact kE | exact kB)).blk; have d0 := hb4.get (k := 2) rfl; have df := hb4.frozen; obtain ⟨a4, cap4, rfl, _⟩ := hown4.shape; refine hK.out _ _ ?_; clear hK K; (try simp only [sq]); refine wpAny_ready (rs := [7]) (by kernel_rfl) (by simp) ?_; refine AllReady.cons (o := _) rfl (fun K hK0 => ?_) ?_
            · have hK := Lib.hid hK0; clear hK0; go_simp; refine hK.out _ _ ?_; clear hK K; (try simp only [sq]); refine wpAny_ready (rs := [8]) (by kernel_rfl) (by simp) ?_; refine AllReady.cons (o := _) rfl (fun K hK0 => ?_) ?_
              · have hK := Lib.hid hK0; clear hK0; go_simp; refine hK.out _ _ ?_; clear hK K; (try simp only [sq]); refine wpAny_ready (rs := [9]) (by kernel_rfl) (by simp) ?_; refine AllReady.cons (o := _) rfl (fun K hK0 => ?_) ?_
                · have hK := Lib.hid hK0; clear hK0; go_simp; refine hK.out _ _ ?_; clear hK K; (try simp only [sq]); refine wpAny_done (by kernel_rfl) ?_ _; go_wp2_with fail; go_meet; exact put_done2Q (HK3.out.trans (by first | exact kE | exact kB)) (HD.out _ (by first | exact kE | exact kB)).blk HU.out hBn hown4 hg4 hat4 rfl
                exact AllReady.nil
              exact AllReady.nil
            exact AllReady.nil
          exact AllReady.nil
        exact AllReady.nil
      refine AllReady.cons (o := _) rfl (fun K hK0 => ?_) ?_
      · have hK := Lib.hid hK0; clear hK0; go_simp; refine (HW.out _ (by repeat (first | assumption | (with_reducible apply Keep.drew)))).mono ?_; rintro e wE ⟨vE, rfl, hoE, hvE, hkE⟩; have kE : Keep [] w3 wE := Keep.trans (by repeat (first | assumption | (with_reducible apply Keep.drew))) hkE; try (have hoX := Lib.hid (hoB.keep0 hkE))
        (try go_wp2_with fail); refine hK.out _ _ ?_; clear hK K; (try simp only [sq]); refine wpAny_ready (rs := [2]) (by kernel_rfl) (by simp) ?_; refine AllReady.cons (o := _) rfl (fun K hK0 => ?_) ?_
        · have hK := Lib.hid hK0; clear hK0; refine step_buildJar2 rfl 29 (.tmp 20) rfl Hs Tryz.underlying29 x xc HCS.out (by rfl) ?_; intro B wB hBe hoB hkB hszB; have hBn : w.heap.size ≤ B := by rw [← hBe]; exact Nat.le_trans HN3.out (Keep.size (w := w3) (by repeat (first | assumption | (with_reducible apply Keep.drew))))
          have kB : Keep [] w3 wB := Keep.trans (by repeat (first | assumption | (with_reducible apply Keep.drew))) hkB; have hoW := Lib.hid hoB; have hkB' := hkB; clear hBe; refine hK.out _ _ ?_; clear hK K; (try simp only [sq]); refine wpAny_ready (rs := [6]) (by kernel_rfl) (by simp) ?_; refine AllReady.cons (o := _) rfl (fun K hK0 => ?_) ?_
          · have hK := Lib.hid hK0; clear hK0; refine step_appendM rfl (.tmp 21) (.tmp 24) 29 rfl is _ 64 Tryz.underlying29 Hs (by rfl) (by decide) Jar.cells_length Jar.one (v := .slice (some ⟨B, 0, none⟩) 1 1) (vx := vE) (L := [x]) (by rfl) (by first | exact hoX.out | exact hoW.out) (by rfl) (by first | exact own_src hoE | exact own_src (hoE.keep0 hkB')) (by simp [maxLen]; omega) (by simp; omega) ?_; intro v4 w4 hown4 hg4 hat4; have hb4 : Blk w4 u 40 _ := (hg4.block u ((HD.out _ (by first | exact kE | exact kB)).blk.lt) (fun e => by have := HU.out; simp [Value.ownBlock] at e; omega)).trans (HD.out _ (by first | exact kE | exact kB)).blk; have d0 := hb4.get (k := 2) rfl; have df := hb4.frozen; obtain ⟨a4, cap4, rfl, _⟩ := hown4.shape; refine hK.out _ _ ?_; clear hK K; (try simp only [sq]); refine wpAny_ready (rs := [7]) (by kernel_rfl) (by simp) ?_; refine AllReady.cons (o := _) rfl (fun K hK0 => ?_) ?_
            · have hK := Lib.hid hK0; clear hK0; go_simp; refine hK.out _ _ ?_; clear hK K; (try simp only [sq]); refine wpAny_ready (rs := [8]) (by kernel_rfl) (by simp) ?_; refine AllReady.cons (o := _) rfl (fun K hK0 => ?_) ?_
              · have hK := Lib.hid hK0; clear hK0; go_simp; refine hK.out _ _ ?_; clear hK K; (try simp only [sq]); refine wpAny_ready (rs := [9]) (by kernel_rfl) (by simp) ?_; refine AllReady.cons (o := _) rfl (fun K hK0 => ?_) ?_
                · have hK := Lib.hid hK0; clear hK0; go_simp; refine hK.out _ _ ?_; clear hK K; (try simp only [sq]); refine wpAny_done (by kernel_rfl) ?_ _; go_wp2_with fail; go_meet; exact put_done2Q (HK3.out.trans (by first | exact kE | exact kB)) (HD.out _ (by first | exact kE | exact kB)).blk HU.out hBn hown4 hg4 hat4 rfl
                exact AllReady.nil
              exact AllReady.nil
            exact AllReady.nil
          exact AllReady.nil
        exact AllReady.nil
      exact AllReady.nil
    refine AllReady.cons (o := _) rfl (fun K hK0 => ?_) ?_
    · have hK := Lib.hid hK0; clear hK0; go_simp; refine (HW.out _ (by repeat (first | assumption | (with_reducible apply Keep.drew)))).mono ?_; rintro e wE ⟨vE, rfl, hoE, hvE, hkE⟩; have kE : Keep [] w3 wE := Keep.trans (by repeat (first | assumption | (with_reducible apply Keep.drew))) hkE; try (have hoX := Lib.hid (hoB.keep0 hkE))
      (try go_wp2_with fail); refine hK.out _ _ ?_; clear hK K; (try simp only [sq]); refine wpAny_ready (rs := [1]) (by kernel_rfl) (by simp) ?_; refine AllReady.cons (o := _) rfl (fun K hK0 => ?_) ?_
      · have hK := Lib.hid hK0; clear hK0; refine step_load_mid rfl 63 (.tmp 6) rfl w2.heap.size 0 (by rfl) xc _ (HBX.out _ (by repeat (first | assumption | (with_reducible apply Keep.drew)))) Tryz.underlying63 rfl HJL.out ?_; refine hK.out _ _ ?_; clear hK K; (try simp only [sq]); refine wpAny_ready (rs := [2]) (by kernel_rfl) (by simp) ?_; refine AllReady.cons (o := _) rfl (fun K hK0 => ?_) ?_
        · have hK := Lib.hid hK0; clear hK0; refine step_buildJar2 rfl 29 (.tmp 20) rfl Hs Tryz.underlying29 x xc HCS.out (by rfl) ?_; intro B wB hBe hoB hkB hszB; have hBn : w.heap.size ≤ B := by rw [← hBe]; exact Nat.le_trans HN3.out (Keep.size (w := w3) (by repeat (first | assumption | (with_reducible apply Keep.drew))))
          have kB : Keep [] w3 wB := Keep.trans (by repeat (first | assumption | (with_reducible apply Keep.drew))) hkB; have hoW := Lib.hid hoB; have hkB' := hkB; clear hBe; refine hK.out _ _ ?_; clear hK K; (try simp only [sq]); refine wpAny_ready (rs := [6]) (by kernel_rfl) (by simp) ?_; refine AllReady.cons (o := _) rfl (fun K hK0 => ?_) ?_
          · have hK := Lib.hid hK0; clear hK0; refine step_appendM rfl (.tmp 21) (.tmp 24) 29 rfl is _ 64 Tryz.underlying29 Hs (by rfl) (by decide) Jar.cells_length Jar.one (v := .slice (some ⟨B, 0, none⟩) 1 1) (vx := vE) (L := [x]) (by rfl) (by first | exact hoX.out | exact hoW.out) (by rfl) (by first | exact own_src hoE | exact own_src (hoE.keep0 hkB')) (by simp [maxLen]; omega) (by simp; omega) ?_; intro v4 w4 hown4 hg4 hat4; have hb4 : Blk w4 u 40 _ := (hg4.block u ((HD.out _ (by first | exact kE | exact kB)).blk.lt) (fun e => by have := HU.out; simp [Value.ownBlock] at e; omega)).trans (HD.out _ (by first | exact kE | exact kB)).blk; have d0 := hb4.get (k := 2) rfl; have df := hb4.frozen; obtain ⟨a4, cap4, rfl, _⟩ := hown4.shape; refine hK.out _ _ ?_; clear hK K; (try simp only [sq]); refine wpAny_ready (rs := [7]) (by kernel_rfl) (by simp) ?_; refine AllReady.cons (o := _) rfl (fun K hK0 => ?_) ?_
            · have hK := Lib.hid hK0; clear hK0; go_simp; refine hK.out _ _ ?_; clear hK K; (try simp only [sq]); refine wpAny_ready (rs := [8]) (by kernel_rfl) (by simp) ?_; refine AllReady.cons (o := _) rfl (fun K hK0 => ?_) ?_
              · have hK := Lib.hid hK0; clear hK0; go_simp; refine hK.out _ _ ?_; clear hK K; (try simp only [sq]); refine wpAny_ready (rs := [9]) (by kernel_rfl) (by simp) ?_; refine AllReady.cons (o := _) rfl (fun K hK0 => ?_) ?_
                · have hK := Lib.hid hK0; clear hK0; go_simp; refine hK.out _ _ ?_; clear hK K; (try simp only [sq]); refine wpAny_done (by kernel_rfl) ?_ _; go_wp2_with fail; go_meet; exact put_done2Q (HK3.out.trans (by first | exact kE | exact kB)) (HD.out _ (by first | exact kE | exact kB)).blk HU.out hBn hown4 hg4 hat4 rfl
                exact AllReady.nil
              exact AllReady.nil
            exact AllReady.nil
          exact AllReady.nil
        exact AllReady.nil
      exact AllReady.nil
    exact AllReady.nil
  case rest =>
    have HC := Lib.hid hcut; clear hcut; go_wp2_with fail; go_ret; exact ⟨rfl, by rw [← HMM.out]; exact HC.out⟩
theorem put_done3Q {w w2 wE : World} {u : Nat} {v vE : Value} {L M : List Jar} {budget : Int} (h : Dq tv w u v L budget) (hk : Keep [] w w2) (hk2 : Keep [] w2 wE) (hoE : Own Jar.cells 35 0 63 wE vE M) (hvE : ∀ g, vE.ownBlock = some g → w2.heap.size ≤ g) :
    DoneQ tv w (wE.setCell ⟨u, 2, none⟩ vE) u v M budget := by
  have hs := hk.size; have hu := h.blk.lt; have hks : Keep [u] wE (wE.setCell ⟨u, 2, none⟩ vE) := (Keep.refl _ _).setCell _ _ (by simp); have hn : ∀ g, vE.ownBlock = some g → w.heap.size ≤ g := fun g hg => Nat.le_trans hs (hvE g hg)
  refine ⟨vE, ⟨(h.keep0 (hk.trans hk2)).blk.set 2 _, hoE.keep hks (fun g hg' => by simp; have := hn g hg'; omega), fun e => by have := hn u e; omega⟩, ?_, fun g hg' => .inr (hn g hg')⟩; exact ((hk.trans hk2).mono (by simp)).setCell _ _ (fun _ => by simp)
theorem ref_Drop21Q (u : Nat) (v : Value) (L : List Jar) (budget : Int) (d : Dig) (w : World) (h : Dq tv w u v L budget) (hL : L.length ≤ 64) (k : Nat) (x : Jar) (hk : posL L d = (k : Nat)) (hx : L[k]? = some x) :
    Calls Tryz.prog 78 #[.pointer (some ⟨u, 2, none⟩), .agg (digC d).toArray] w fun e w' => e = .returned (.int .i64 (if 0 < x.pins then 8 else 0)) ∧ DoneQ tv w w' u v (if 0 < x.pins then L else L.take k ++ L.drop (k + 1)) budget := by
  have hkl : k < L.length := (List.getElem?_eq_some_iff.1 hx).1; have hb := Blk.newA w (digC d).toArray 25; have hkA := (Keep.refl [] w).alloc (.cells (digC d).toArray 25); generalize hwA : w.alloc (.cells (digC d).toArray 25) = wA at hb hkA; obtain ⟨g', cap, hv, hle, hcm, _⟩ := own_at h.own hx; subst hv; have HDB := Lib.hid (hb.rangeAt); have HP1 := Lib.hid (ref_PlaceQ u _ L budget d wA (h.keep0 hkA)); rw [hk] at HP1; have HD0 := Lib.hid (fun w' (k : Keep [] w w') => h.keep0 k); have H := Lib.hid h; have HK := Lib.hid hkA; have HDL := Lib.hid (digC_length d)
  have HR := Lib.hid (fun w' (hk : Keep [] w w') => by
    obtain ⟨g2, cap2, hv2, _, _, hr⟩ := own_at (h.keep0 hk).own hx; cases hv2; exact hr 34 (.int .i64 x.pins) (by simp [Jar.cells, digC_length, List.getElem?_append]))
  have h0 : ¬ (k : Int) < 0 := by omega
  have h1 : (k : Int) < (L.length : Int) := by omega
  generalize digC d = dc at *; have HW := Lib.hid (fun w' (kk : Keep [] w w') => ref_withoutQ u _ L budget k w' (h.keep0 kk) hkl hL); obtain ⟨M, hM⟩ : ∃ M, M = L.take k ++ L.drop (k + 1) := ⟨_, rfl⟩
  rw [← hM] at HW ⊢; generalize x.pins = xp at *; clear hb hkA h hx hk hle hcm hM; by_cases hp : 0 < xp
  · have hp' : decide (0 < xp) = true := decide_eq_true hp; rw [if_pos hp, if_pos hp]; clear hp; go_enter Tryz.func78, Tryz.ntmps78
    go_wp2_with (first | (refine wpList_load_mid rfl 25 (.tmp 3) rfl w.heap.size 0 (by rfl) dc _ HDB.out Tryz.underlying25 rfl (by rw [HDL.out]; exact dig_size) ?_) | fail); refine HP1.out.mono ?_; rintro e w2 ⟨rfl, k2⟩; have K2 := Lib.hid (HK.out.trans k2); have c0 := (HD0.out w2 K2.out).blk.get (k := 2) rfl; have c34 := HR.out w2 K2.out; clear k2; go_wp2_with fail; go_ret; exact ⟨rfl, DoneQ.same H.out K2.out⟩
  · have hp' : decide (0 < xp) = false := decide_eq_false hp; rw [if_neg hp, if_neg hp]; clear hp; go_enter Tryz.func78, Tryz.ntmps78
    go_wp2_with (first | (refine wpList_load_mid rfl 25 (.tmp 3) rfl w.heap.size 0 (by rfl) dc _ HDB.out Tryz.underlying25 rfl (by rw [HDL.out]; exact dig_size) ?_) | fail); refine HP1.out.mono ?_; rintro e w2 ⟨rfl, k2⟩; have K2 := Lib.hid (HK.out.trans k2); have c0 := (HD0.out w2 K2.out).blk.get (k := 2) rfl; have c34 := HR.out w2 K2.out; clear k2; go_wp2_with fail; refine (HW.out _ K2.out).mono ?_; rintro e wE ⟨vE, rfl, hoE, hvE, hkE⟩; have hbE := (HD0.out wE (K2.out.trans hkE)).blk; have e0 := hbE.get (k := 2) rfl; have ef := hbE.frozen; have HC := Lib.hid (put_done3Q H.out K2.out hkE hoE hvE); obtain ⟨aE, cE, rfl, _⟩ := hoE.shape; clear hbE c0 c34 hoE hvE hkE; go_wp2_with fail; go_ret; exact ⟨rfl, HC.out⟩
theorem ref_Touch_noQ (u : Nat) (v : Value) (L : List Jar) (budget : Int) (d : Dig) (w : World) (h : Dq tv w u v L budget) (hk : posL L d = -1) :
    Calls Tryz.prog 65 #[.pointer (some ⟨u, 2, none⟩), .agg (digC d).toArray] w fun e w' => e = .returned (.int .i64 7) ∧ DoneQ tv w w' u v L budget := by
  have hb := Blk.newA w (digC d).toArray 25; have hkA := (Keep.refl [] w).alloc (.cells (digC d).toArray 25); generalize hwA : w.alloc (.cells (digC d).toArray 25) = wA at hb hkA; have HDB := Lib.hid (hb.rangeAt); have HP1 := Lib.hid (ref_PlaceQ u _ L budget d wA (h.keep0 hkA)); rw [hk] at HP1; have H := Lib.hid h; have HK := Lib.hid hkA; have HDL := Lib.hid (digC_length d); generalize digC d = dc at *; clear hb hkA h hk; go_enter Tryz.func65, Tryz.ntmps65
  go_wp2_with (first | (refine wpList_load_mid rfl 25 (.tmp 3) rfl w.heap.size 0 (by rfl) dc _ HDB.out Tryz.underlying25 rfl (by rw [HDL.out]; exact dig_size) ?_) | fail); refine HP1.out.mono ?_; rintro e w2 ⟨rfl, k2⟩; go_wp2_with fail; go_ret; exact ⟨rfl, DoneQ.same H.out (HK.out.trans k2)⟩
theorem ref_Drop_noQ (u : Nat) (v : Value) (L : List Jar) (budget : Int) (d : Dig) (w : World) (h : Dq tv w u v L budget) (hk : posL L d = -1) :
    Calls Tryz.prog 78 #[.pointer (some ⟨u, 2, none⟩), .agg (digC d).toArray] w fun e w' => e = .returned (.int .i64 7) ∧ DoneQ tv w w' u v L budget := by
  have hb := Blk.newA w (digC d).toArray 25; have hkA := (Keep.refl [] w).alloc (.cells (digC d).toArray 25); generalize hwA : w.alloc (.cells (digC d).toArray 25) = wA at hb hkA; have HDB := Lib.hid (hb.rangeAt); have HP1 := Lib.hid (ref_PlaceQ u _ L budget d wA (h.keep0 hkA)); rw [hk] at HP1; have H := Lib.hid h; have HK := Lib.hid hkA; have HDL := Lib.hid (digC_length d); generalize digC d = dc at *; clear hb hkA h hk; go_enter Tryz.func78, Tryz.ntmps78
  go_wp2_with (first | (refine wpList_load_mid rfl 25 (.tmp 3) rfl w.heap.size 0 (by rfl) dc _ HDB.out Tryz.underlying25 rfl (by rw [HDL.out]; exact dig_size) ?_) | fail); refine HP1.out.mono ?_; rintro e w2 ⟨rfl, k2⟩; go_wp2_with fail; go_ret; exact ⟨rfl, DoneQ.same H.out (HK.out.trans k2)⟩
variable {w : World} {u : Nat} {v : Value} {L : List Jar} {budget : Int}
theorem dq_Put (h : Dq tv w u v L budget) (hL : L.length ≤ 64) (j : Jar) (hjl : j.typ.length ≤ maxLen) :
    Calls Tryz.prog 64 #[.pointer (some ⟨u, 2, none⟩), .agg j.cells.toArray] w fun e w' => e = .returned (.int .i64 (putE L j)) ∧ DoneQ tv w w' u v (putL L j) budget := by
  have := ref_Put21Q u v L budget j w h hL hjl; rwa [(put_same L j).1, (put_same L j).2] at this
theorem dq_Touch (h : Dq tv w u v L budget) (hL : L.length ≤ 64) (hn : (L.map (·.dig)).Nodup) (d : Dig) :
    Calls Tryz.prog 65 #[.pointer (some ⟨u, 2, none⟩), .agg (digC d).toArray] w fun e w' => e = .returned (.int .i64 (hereE L d)) ∧ DoneQ tv w w' u v (touchL L d) budget := by
  rcases posL_or L d with ⟨h1, h2⟩ | ⟨k, x, h1, hx, hd, h2⟩
  · have := ref_Touch_noQ u v L budget d w h h1; unfold hereE touchL; rw [h2]; exact this
  · have := ref_Touch21Q u v L budget d w h hL k x h1 hx; unfold hereE touchL; rw [h2, rest_at L k x d hn hx hd]; exact this
theorem dq_Drop (h : Dq tv w u v L budget) (hL : L.length ≤ 64) (hn : (L.map (·.dig)).Nodup) (d : Dig) :
    Calls Tryz.prog 78 #[.pointer (some ⟨u, 2, none⟩), .agg (digC d).toArray] w fun e w' => e = .returned (.int .i64 (dropE L d)) ∧ DoneQ tv w w' u v (dropL L d) budget := by
  rcases posL_or L d with ⟨h1, h2⟩ | ⟨k, x, h1, hx, hd, h2⟩
  · have := ref_Drop_noQ u v L budget d w h h1; unfold dropE dropL; rw [h2]; exact this
  · have := ref_Drop21Q u v L budget d w h hL k x h1 hx; unfold dropE dropL; rw [h2, rest_at L k x d hn hx hd]; exact this
end
end Go.Proofs.YtkghgaopcgcheaaGreatDoor
namespace Go.Proofs.YtkghgaopcgcheaaGreatDoor
open Go.RowKit Go.Maps
abbrev NB := List (List UInt8 × Nat)
def insN (x : List UInt8 × Nat) : NB → NB
  | [] => [x]
  | y :: r => if bytesBefore x.1 y.1 then x :: y :: r else y :: insN x r
def delN (s : List UInt8) (F : NB) : NB := F.filter fun p => !(p.1 == s)
def putN (s : List UInt8) (b : Nat) (F : NB) : NB := insN (s, b) (delN s F)
def atN (s : List UInt8) (F : NB) : Option Nat := (F.find? fun p => p.1 == s).map (·.2)
def entN (p : List UInt8 × Nat) : Lit × DataW Unit := (.string p.1, .lit (.int .i64 (p.2 : Nat)))
def datN (F : NB) : DataW Unit := .map (F.map entN)
theorem datN_ins (x : List UInt8 × Nat) (F : NB) : DataW.insert (entN x) (F.map entN) = (insN x F).map entN := by
  induction F with
  | nil => rfl
  | cons y r ih =>
    show (if bytesBefore x.1 y.1 then _ else _) = ((if bytesBefore x.1 y.1 then _ else _ : NB)).map entN
    split
    · rfl
    · rw [ih]; rfl
theorem datN_filter (s : List UInt8) (F : NB) : ((F.map entN).filter fun p => !p.1.sameKey (.string s)) = (delN s F).map entN := by
  rw [List.filter_map]; rfl
theorem datN_put (s : List UInt8) (b : Nat) (F : NB) : (datN F).put (.string s) (.lit (.int .i64 (b : Nat))) = datN (putN s b F) := by
  show DataW.map (DataW.insert (entN (s, b)) _) = _; rw [datN_filter, datN_ins]; rfl
theorem datN_del (s : List UInt8) (F : NB) : (datN F).del (.string s) = datN (delN s F) := by
  show DataW.map _ = _; rw [datN_filter]; rfl
theorem datN_at (s : List UInt8) (F : NB) (z : DataW Unit) : (datN F).atKey (.string s) z = match atN s F with | some b => .lit (.int .i64 (b : Nat)) | none => z := by
  unfold datN atN DataW.atKey; simp only [List.find?_map]; have e : ((fun p : Lit × DataW Unit => p.1.sameKey (.string s)) ∘ entN) = fun p => p.1 == s := rfl
  rw [e]; cases F.find? (fun p => p.1 == s) <;> rfl
theorem datN_size (F : NB) : Maps.size (datN F) = F.length := by
  show (F.map entN).length = _; rw [List.length_map]
theorem datN_keys (F : NB) : strKeys (datN F) = F.map (·.1) := by
  show (F.map entN).map (fun p => strOf p.1) = _; rw [List.map_map]; rfl
def ptrR : Value → Option (DataW Unit × List MemPlace)
  | .pointer none => some (.lit (.int .i64 (-1)), [])
  | .pointer (some ⟨b, 0, none⟩) => some (.lit (.int .i64 (b : Nat)), [])
  | _ => none
def ptrN (o : Option Nat) : Value := .pointer (o.map fun b => ⟨b, 0, none⟩)
theorem ptrR_inv {v : Value} {o : Option Nat} {ps : List MemPlace} (h : ptrR v = some ((match o with | some b => .lit (.int .i64 (b : Nat)) | none => .lit (.int .i64 (-1)) : DataW Unit), ps)) : v = ptrN o := by
  unfold ptrR at h
  split at h
  · cases o with
    | none => rfl
    | some b => simp at h
  · cases o with
    | none => simp at h
    | some b => simp at h; obtain ⟨h, _⟩ := h; simp [ptrN, h]
  · cases h
theorem key_of (s : List UInt8) (h : s.length ≤ maxLen) : keyOf Tryz.prog 9 (.string (S s)) = some (.string s) := by
  have hs : (S s).data.size ≤ maxLen := by
    show (S s).size ≤ maxLen; rw [S_size]; exact h
  have e : (S s).data.toList = s := by simp [S]
  simp [keyOf, Tryz.underlying9, mapKey, e]; exact hs
def MapN (w : World) (bm : Nat) (F : NB) : Prop := w.ownsMap Tryz.prog 9 ptrR bm F.length (datN F)
theorem MapN.keep {T : List Nat} {w w' : World} {bm : Nat} {F : NB} (h : MapN w bm F) (k : Keep T w w') (hn : bm ∉ T) : MapN w' bm F := by
  obtain ⟨es, clock, hb, r⟩ := h; exact ⟨es, clock, k.heap hb hn, r⟩
theorem MapN.lt {w : World} {bm : Nat} {F : NB} (h : MapN w bm F) : bm < w.heap.size := by
  obtain ⟨es, clock, hb, r⟩ := h; exact lt_of_block hb
theorem MapN.alloc {w : World} {bm : Nat} {F : NB} (h : MapN w bm F) (o : Obj) : MapN (w.alloc o) bm F := World.ownsMap.alloc h o
theorem MapN.made (w : World) : MapN (w.alloc (.map #[] 0)) w.heap.size [] := World.ownsMap_made w _ _ _
theorem str_law : Keyed Tryz.prog 9 := string_keyed Tryz.underlying9
theorem zeroPtr (w : World) : (zeroValue 125).run Tryz.prog w = .ok (.pointer none) w := by kernel_rfl
theorem MapN.asc {w : World} {bm : Nat} {F : NB} (h : MapN w bm F) : F.Pairwise fun p q => bytesBefore p.1 q.1 = true := by
  obtain ⟨es, e, hs, _⟩ := World.ownsMap.canon h str_law; have e2 : F.map entN = es := by injection e
  rw [← e2] at hs; exact List.pairwise_map.1 hs
theorem MapN.look {w : World} {bm : Nat} {F : NB} (h : MapN w bm F) (s : List UInt8) (hs : s.length ≤ maxLen) :
    (Instr.lookup 87 (.map (some bm)) (.string (S s)) false).run Tryz.prog w = .ok (ptrN (atN s F)) w := by
  obtain ⟨v, ps, hrun, hc⟩ := World.ownsMap.lookup h str_law Tryz.underlying87 (zeroPtr w) (zd := .lit (.int .i64 (-1))) (zp := []) rfl (key_of s hs); rw [datN_at] at hc; rw [hrun, ptrR_inv hc]
theorem MapN.put {w : World} {bm : Nat} {F : NB} (h : MapN w bm F) (s : List UInt8) (hs : s.length ≤ maxLen) (b : Nat) (hn : F.length < maxLen) :
    ∃ w', (Instr.mapUpdate 87 (.map (some bm)) (.string (S s)) (.pointer (some ⟨b, 0, none⟩))).run Tryz.prog w = .ok () w' ∧ MapN w' bm (putN s b F) ∧ w.mapTurned w' bm := by
  obtain ⟨w', hrun, ho', ht⟩ := World.ownsMap.store h (val := .pointer (some ⟨b, 0, none⟩)) (d := .lit (.int .i64 (b : Nat))) (ps := []) str_law Tryz.underlying87 hn (key_of s hs) rfl; rw [datN_put] at ho'; have := ownsMap_fit ho'; rw [datN_size] at this; exact ⟨w', hrun, this, ht⟩
theorem MapN.drop {w : World} {bm : Nat} {F : NB} (h : MapN w bm F) (s : List UInt8) (hs : s.length ≤ maxLen) (ty : TypeId) :
    ∃ w', (Builtin.delete_ #[87, 9] ty #[.map (some bm), .string (S s)]).run Tryz.prog w = .ok (.tuple #[]) w' ∧ MapN w' bm (delN s F) ∧ w.mapTurned w' bm := by
  obtain ⟨w', hrun, ho', ht⟩ := World.ownsMap.drop h str_law Tryz.underlying87 (key_of s hs) ty; rw [datN_del] at ho'; have := ownsMap_fit ho'; rw [datN_size] at this; exact ⟨w', hrun, this, ht⟩
theorem MapN.len {w : World} {bm : Nat} {F : NB} (h : MapN w bm F) (ty : TypeId) : (Builtin.len_ #[87] ty #[.map (some bm)]).run Tryz.prog w = .ok (.int .i64 (F.length : Nat)) w := by
  have := World.ownsMap.len h Tryz.underlying87 ty; rwa [datN_size] at this
theorem before_le : ∀ {a b : List UInt8}, bytesBefore a b = true → a < b
  | _, [], h => by cases ‹List UInt8› <;> simp [bytesBefore] at h
  | [], y :: s, _ => by simp
  | x :: r, y :: s, h => by
    simp only [bytesBefore, Bool.or_eq_true, Bool.and_eq_true, decide_eq_true_eq, beq_iff_eq] at h; rw [List.cons_lt_cons_iff]; rcases h with h | ⟨h1, h2⟩
    · exact Or.inl h
    · exact Or.inr ⟨h1, before_le h2⟩
theorem MapN.sorted {w : World} {bm : Nat} {F : NB} (h : MapN w bm F) {ss : List (List UInt8)} (hp : ss.Perm (strKeys (datN F))) : ss.mergeSort leB = F.map (·.1) := by
  rw [datN_keys] at hp; rw [mergeSort_of_perm hp]; refine List.mergeSort_of_pairwise ?_; refine List.pairwise_map.2 (h.asc.imp fun {p q} hb => ?_); simp only [leB, decide_eq_true_eq]; exact List.le_of_lt (before_le hb)
end Go.Proofs.YtkghgaopcgcheaaGreatDoor
namespace Go.Proofs.YtkghgaopcgcheaaGreatDoor
open Go.RowKit
theorem tab_keep {w w' : World} {S : List Nat} {nm : String} {q : IntKind} {zs : List Int} (h : Lib.TabIs Tryz.prog w nm q zs) (k : Keep S w w') (hn : ∀ g, Tryz.prog.globalNamed nm = some g → g ∉ S) : Lib.TabIs Tryz.prog w' nm q zs := by
  unfold Lib.TabIs World.var? at *
  cases hg : Tryz.prog.globalNamed nm with
  | none => simp [hg] at h
  | some g =>
    rw [hg] at h; simp only [Option.bind_some] at h ⊢
    cases ho : w.heap[g]? with
    | none => rw [ho] at h; simp at h
    | some o =>
      rw [k.heap ho (hn g hg)]; rw [ho] at h; exact h
def nibT : List Int := [0, 498536548, 997073096, 651767980, 1994146192, 1802195444, 1303535960, 1342533948, 3988292384, 4027552580, 3604390888, 3412177804, 2607071920, 2262029012, 2685067896, 3183342108]
def NibT (w : World) : Prop := Lib.TabIs Tryz.prog w "manciple/crc.nibbles" .u32 nibT
theorem NibT.keep0 {w w' : World} (h : NibT w) (k : Keep [] w w') : NibT w' := tab_keep h k (by simp)
theorem nib15 (x : Int) : ∃ n : Nat, bits .and .u32 x 15 = (n : Nat) ∧ n < 16 := by
  refine ⟨(BitVec.ofInt 32 x &&& 15#32).toNat, ?_, ?_⟩
  · show IntKind.u32.wrap ((BitVec.ofInt 32 x &&& BitVec.ofInt 32 15).toNat : Nat) = _; have h : (BitVec.ofInt 32 x &&& BitVec.ofInt 32 15).toNat < 4294967296 := BitVec.isLt _; have e : (BitVec.ofInt 32 15) = 15#32 := rfl; rw [e] at h ⊢; generalize (BitVec.ofInt 32 x &&& 15#32).toNat = m at h; simp [IntKind.wrap, IntKind.signed, IntKind.bits]; omega
  · rw [BitVec.toNat_and]; exact Nat.lt_of_le_of_lt Nat.and_le_right (by decide)
def crcHalf (x : Int) : Int := bits .xor .u32 (x / 16) (nibT.getD (bits .and .u32 x 15).toNat 0)
def crcStep (x : Int) (b : UInt8) : Int := crcHalf (crcHalf (bits .xor .u32 x (b.toNat : Nat)))
theorem crc_step (x : Int) (b : UInt8) (w : World) (h : NibT w) : Calls Tryz.prog 258 #[.int .u32 x, .int .u8 (b.toNat : Nat)] w fun e w' => e = .returned (.int .u32 (crcStep x b)) ∧ w = w' := by
  have b8 := u8_nat b; have hwr : IntKind.u32.wrap ((b.toNat : Nat) : Int) = (b.toNat : Nat) := by simp [IntKind.wrap, IntKind.signed, IntKind.bits]; omega
  obtain ⟨y, hy⟩ : ∃ y, bits .xor .u32 x (b.toNat : Nat) = y := ⟨_, rfl⟩
  obtain ⟨n1, e1, l1⟩ := nib15 y; have c1 := Lib.TabIs.cell h (g := 6) (by kernel_rfl) n1 l1; obtain ⟨m1, hm1⟩ : ∃ m, nibT.getD n1 0 = m := ⟨_, rfl⟩
  rw [hm1] at c1; obtain ⟨z, hz⟩ : ∃ z, bits .xor .u32 (y / 16) m1 = z := ⟨_, rfl⟩
  obtain ⟨n2, e2, l2⟩ := nib15 z; have c2 := Lib.TabIs.cell h (g := 6) (by kernel_rfl) n2 l2; obtain ⟨m2, hm2⟩ : ∃ m, nibT.getD n2 0 = m := ⟨_, rfl⟩
  rw [hm2] at c2
  have hq : crcStep x b = bits .xor .u32 (z / 16) m2 := by
    unfold crcStep crcHalf; rw [hy, e1, Int.toNat_natCast, hm1, hz, e2, Int.toNat_natCast, hm2]
  rw [hq]; have i1 : (n1 : Int) < 16 := by omega
  have i2 : (n2 : Int) < 16 := by omega
  clear hm1 hm2 hq h; go_enter Tryz.func258, Tryz.ntmps258; go_wp2_with fail; go_ret; exact ⟨rfl, rfl⟩
def crcMore (sum : Int) (l : List UInt8) : Int := bits .xor .u32 4294967295 (l.foldl crcStep (bits .xor .u32 4294967295 sum))
theorem crc_More (x : Int) (l : List UInt8) (w : World) (hl : l.length ≤ maxLen) (h : NibT w) : Calls Tryz.prog 239 #[.int .u32 x, .string (S l)] w fun e w' => e = .returned (.int .u32 (crcMore x l)) ∧ w = w' := by
  have hsz := S_size l; have HC := Lib.hid (fun (x : Int) (b : UInt8) => crc_step x b w h); obtain ⟨y, hy⟩ : ∃ y, bits .xor .u32 4294967295 x = y := ⟨_, rfl⟩
  unfold crcMore; rw [hy]; have hsg : IntKind.u32.signed = false := rfl; have hmx : IntKind.u32.max = 4294967295 := rfl; go_enter Tryz.func239, Tryz.ntmps239; go_wp2_with fail
  go_loopg [5, 11] l.length (fun g v i wr => ∃ k : Nat, i = .int .i64 (k : Nat) ∧ k ≤ l.length ∧ g = l.length - k ∧ v = .int .u32 ((l.take k).foldl crcStep y) ∧ wr = w)
  case atStart => exact ⟨0, rfl, Nat.zero_le _, rfl, rfl, rfl⟩
  case round =>
    obtain ⟨k, rfl, hk, hg, rfl, rfl⟩ := hrel; by_cases hlt : k < l.length
    · obtain ⟨c, hc⟩ : ∃ c, l[k]? = some c := ⟨_, List.getElem?_eq_getElem hlt⟩
      have hget := S_get hc; have wk := IntWalk.i64_in ((k : Int) + 1) (by unfold maxLen at hl; omega)
      have hst : (l.take (k + 1)).foldl crcStep y = crcStep ((l.take k).foldl crcStep y) c := by
        rw [List.take_add_one, hc, List.foldl_append]; rfl
      have f1 : decide ((k : Int) < (l.length : Nat)) = true := decide_eq_true (by omega); generalize (l.take k).foldl crcStep y = z at hst; have HST := Lib.hid hst; clear hst hc; go_wp2_with fail; refine (HC.out z c).mono ?_; rintro e w1 ⟨rfl, rfl⟩; go_wp2_with fail
      go_roundg (l.length - (k + 1))
      case measure => omega
      case rel => exact ⟨k + 1, rfl, by omega, rfl, by rw [HST.out], rfl⟩
    · obtain rfl : k = l.length := by omega
      rw [List.take_length]; go_wp2_with fail; go_ret; exact ⟨rfl, rfl⟩
def crcOf (ps : List (List UInt8)) : Int := ps.foldl crcMore 0
theorem crc_Of (v : Value) (ps : List (List UInt8)) (w : World) (hs : Sl strC 1 w v ps) (hl : ∀ l ∈ ps, l.length ≤ maxLen) (h : NibT w) : Calls Tryz.prog 205 #[v] w fun e w' => e = .returned (.int .u32 (crcOf ps)) ∧ w = w' := by
  obtain ⟨a, cap, rfl, hml⟩ := hs.shape; have hml' : ps.length ≤ 9223372036854775807 := hml; have HS := Lib.hid hs; have HC := Lib.hid (fun (x : Int) (l : List UInt8) (hl : l.length ≤ maxLen) => crc_More x l w hl h); clear hs; unfold crcOf; go_enter Tryz.func205, Tryz.ntmps205; go_wp2_with fail
  go_loopg [2, 7] ps.length (fun g v i wr => ∃ k : Nat, i = .int .i64 (k : Nat) ∧ k ≤ ps.length ∧ g = ps.length - k ∧ v = .int .u32 ((ps.take k).foldl crcMore 0) ∧ wr = w)
  case atStart => exact ⟨0, rfl, Nat.zero_le _, rfl, rfl, rfl⟩
  case round =>
    obtain ⟨k, rfl, hk, hg, rfl, rfl⟩ := hrel; by_cases hlt : k < ps.length
    · obtain ⟨c, hc⟩ : ∃ c, ps[k]? = some c := ⟨_, List.getElem?_eq_getElem hlt⟩
      obtain ⟨b, off, cap', hv, h1, h2, h3⟩ := HS.out.cell hc; cases hv
      have c1 : wr.cell? ⟨b, off + k, none⟩ = some (.string (S c)) := by
        have := h3 0 (by omega); rw [Nat.mul_one, Nat.add_zero] at this; exact this
      have wk := IntWalk.i64_in ((k : Int) + 1) (by omega)
      have hst : (ps.take (k + 1)).foldl crcMore 0 = crcMore ((ps.take k).foldl crcMore 0) c := by
        rw [List.take_add_one, hc, List.foldl_append]; rfl
      have f1 : decide ((k : Int) < (ps.length : Nat)) = true := decide_eq_true (by omega); generalize (ps.take k).foldl crcMore 0 = z at hst; have HST := Lib.hid hst; have HM := hl c (List.mem_of_getElem? hc); clear hst hc h3; go_wp2_with fail; refine (HC.out z c HM).mono ?_; rintro e w1 ⟨rfl, rfl⟩; go_wp2_with fail
      go_roundg (ps.length - (k + 1))
      case measure => omega
      case rel => exact ⟨k + 1, rfl, by omega, rfl, by rw [HST.out], rfl⟩
    · obtain rfl : k = ps.length := by omega
      rw [List.take_length]; go_wp2_with fail; go_ret; exact ⟨rfl, rfl⟩
theorem u8inf : (Tryz.prog.info? 5).map (fun i => (i.zero, i.size, i.bytes)) = some (some (.int .u8 0), 1, 1) := by kernel_rfl
def bytC (l : List UInt8) : List Value := l.map fun c => .int .u8 (c.toNat : Nat)
theorem bytC_length (l : List UInt8) : (bytC l).length = l.length := by simp [bytC]
theorem bytC_get {l : List UInt8} {k : Nat} {c : UInt8} (h : l[k]? = some c) : (bytC l)[k]? = some (.int .u8 (c.toNat : Nat)) := by simp [bytC, h]
theorem bytC_set (l : List UInt8) (k : Nat) (c : UInt8) : (bytC l).set k (.int .u8 (c.toNat : Nat)) = bytC (l.set k c) := by simp [bytC, List.map_set]
theorem rows_zero (n : Nat) : rows byteC (List.replicate n 0) = bytC (List.replicate n 0) := by
  induction n with
  | zero => rfl
  | succ n ih => simpa [List.replicate_succ, rows, bytC, byteC] using ih
theorem make_bytes (w : World) (n : Nat) (h : n ≤ 1048576) : (Instr.makeSlice 126 (.int .i64 (n : Nat)) (.int .i64 (n : Nat))).run Tryz.prog w = .ok (.slice (some ⟨w.heap.size, 0, none⟩) n n) (w.alloc (.cells (bytC (List.replicate n 0)).toArray 5)) := by
  obtain ⟨i0, hi, hz0, hz1, hz2⟩ := info_parts u8inf; have := run_make (P := Tryz.prog) w 126 5 i0 _ Tryz.underlying126 hi hz0 .i64 .i64 (n : Nat) (n : Nat) (by omega) (by omega) (by rw [hz2]; omega) (by omega); rw [this, hz1]; simp only [Int.toNat_natCast, Nat.mul_one]
  have e : madeCells (Value.int IntKind.u8 0).cells n = (bytC (List.replicate n 0)).toArray := by
    have := made_rows byteC_length (by omega) (0 : UInt8) n; rw [Nat.mul_one] at this; apply Array.ext'; rw [show (Value.int IntKind.u8 0).cells = (byteC 0).toArray from rfl, this]; exact rows_zero n
  rw [e]
theorem bytes_back {w : World} {g : Nat} {l : List UInt8} (h : Blk w g 5 (bytC l)) (c : Nat) : (convert 126 9 (.slice (some ⟨g, 0, none⟩) l.length c)).run Tryz.prog w = .ok (.string (S l)) w := by
  refine run_convert_bytes_back w 126 9 5 ⟨g, 0, none⟩ c l Tryz.underlying126 Tryz.underlying5 Tryz.underlying9 (fun j hj => ?_); have ha : (⟨g, 0, none⟩ : Addr).add j = ⟨g, j, none⟩ := by unfold Addr.add; split <;> simp_all
  rw [ha]; exact h.get (bytC_get (List.getElem?_eq_getElem hj))
def u8of (x : Int) : UInt8 := UInt8.ofNat (x % 256).toNat
theorem u8of_wrap (x : Int) : IntKind.u8.wrap x = ((u8of x).toNat : Nat) := by
  have h : (x % 256).toNat < 256 := by omega
  have e : (u8of x).toNat = (x % 256).toNat := by
    unfold u8of; rw [UInt8.toNat_ofNat']; omega
  rw [e]; simp [IntKind.wrap, IntKind.signed, IntKind.bits]; omega
def crcTail (x : Int) : List UInt8 := (List.range 4).map fun k => u8of (x / 2 ^ (8 * k))
theorem crc_Tail (x : Int) (w : World) : Calls Tryz.prog 204 #[.int .u32 x] w fun e w' => e = .returned (.string (S (crcTail x))) ∧ Keep [] w w' := by
  have hmk : (Instr.makeSlice 126 (.int .i64 4) (.int .i64 4)).run Tryz.prog w = _ := make_bytes w 4 (by omega); have HB := Lib.hid (Blk.new w (bytC (List.replicate 4 0)) 5); have HK := Lib.hid ((Keep.refl [] w).alloc (.cells (bytC (List.replicate 4 0)).toArray 5)); generalize w.alloc (.cells (bytC (List.replicate 4 0)).toArray 5) = w1 at hmk HB HK; go_enter Tryz.func204, Tryz.ntmps204; go_wp2_with fail
  go_loopg [8] 4 (fun g i wr => ∃ k : Nat, i = .int .i64 (k : Nat) ∧ k ≤ 4 ∧ g = 4 - k ∧ Hid (Blk wr w.heap.size 5 (bytC ((crcTail x).take k ++ List.replicate (4 - k) 0))) ∧ Hid (Keep [] w wr))
  case atStart => exact ⟨0, rfl, by omega, rfl, HB, HK⟩
  case round =>
    obtain ⟨k, rfl, hk, hg, HL, HKr⟩ := hrel; by_cases hlt : k < 4
    · have f1 : decide ((k : Int) < 4) = true := decide_eq_true (by omega); have wk := IntWalk.i64_in ((k : Int) + 1) (by omega); have wm := IntWalk.i64_in (8 * (k : Int)) (by omega); have p0 : (0 : Int) ≤ 8 * (k : Int) := by omega
      have p1 : (8 * (k : Int)).toNat = 8 * k := by omega
      have p2 : 8 * (k : Int) ≤ 32 := by omega
      have hw := u8of_wrap (x / 2 ^ (8 * k)); have hln : ((crcTail x).take k).length = k := by simp [crcTail]; omega
      have hc0 : ((crcTail x).take k ++ List.replicate (4 - k) 0)[k]? = some (0 : UInt8) := by
        rw [List.getElem?_append_right (by omega), hln, Nat.sub_self, List.getElem?_replicate, if_pos (by omega)]
      have hfr := HL.out.frozen k; have hcl := HL.out.get (bytC_get hc0); have hbs := HL.out.set k (.int .u8 ((u8of (x / 2 ^ (8 * k))).toNat : Nat)); rw [bytC_set] at hbs
      have hnx : ((crcTail x).take k ++ List.replicate (4 - k) 0).set k (u8of (x / 2 ^ (8 * k))) = (crcTail x).take (k + 1) ++ List.replicate (4 - (k + 1)) 0 := by
        rw [List.set_append_right _ _ (by omega), hln, Nat.sub_self, show 4 - k = (4 - (k + 1)) + 1 by omega, List.replicate_succ, sqC]; have e : (crcTail x)[k]? = some (u8of (x / 2 ^ (8 * k))) := by simp [crcTail, hlt]
        rw [take_snoc e, List.append_assoc]; rfl
      rw [hnx] at hbs; have HS := Lib.hid hbs; clear hbs hnx hc0 hln; go_wp2_with fail
      go_roundg (4 - (k + 1))
      case measure => omega
      case rel => exact ⟨k + 1, rfl, by omega, rfl, HS, Lib.hid (HKr.out.setCell _ _ (by simp))⟩
    · obtain rfl : k = 4 := by omega
      have hb := HL.out; have e : (crcTail x).take 4 ++ List.replicate (4 - 4) 0 = crcTail x := by rw [List.take_of_length_le (by simp [crcTail])]; simp
      rw [e] at hb; have hcv := bytes_back hb 4; rw [show (crcTail x).length = 4 from rfl] at hcv; clear hb e; go_wp2_with fail; go_ret; exact ⟨rfl, HKr.out⟩
abbrev w32 (x : Int) : Int := IntKind.u32.wrap x
abbrev xr (x y : Int) : Int := bits .xor .u32 x y
abbrev an (x y : Int) : Int := bits .and .u32 x y
def rotR (x : Int) (n : Nat) : Int := bits .or .u32 (w32 (x * 2 ^ (32 - n))) (x / 2 ^ n)
def shaStart : List Int := [1779033703, 3144134277, 1013904242, 2773480762, 1359893119, 2600822924, 528734635, 1541459225]
def shaKeys : List Int := [1116352408, 1899447441, 3049323471, 3921009573, 961987163, 1508970993, 2453635748, 2870763221, 3624381080, 310598401, 607225278, 1426881987, 1925078388, 2162078206, 2614888103, 3248222580, 3835390401, 4022224774, 264347078, 604807628, 770255983, 1249150122, 1555081692, 1996064986, 2554220882, 2821834349, 2952996808, 3210313671, 3336571891, 3584528711, 113926993, 338241895, 666307205, 773529912, 1294757372, 1396182291, 1695183700, 1986661051, 2177026350, 2456956037, 2730485921, 2820302411, 3259730800, 3345764771, 3516065817, 3600352804, 4094571909, 275423344, 430227734, 506948616, 659060556, 883997877, 958139571, 1322822218, 1537002063, 1747873779, 1955562222, 2024104815, 2227730452, 2361852424, 2428436474, 2756734187, 3204031479, 3329325298]
def ShaT (w : World) : Prop := Lib.TabIs Tryz.prog w "manciple/sha.start" .u32 shaStart ∧ Lib.TabIs Tryz.prog w "manciple/sha.keys" .u32 shaKeys
theorem ShaT.keep0 {w w' : World} (h : ShaT w) (k : Keep [] w w') : ShaT w' := ⟨tab_keep h.1 k (by simp), tab_keep h.2 k (by simp)⟩
def u32C (l : List Int) : List Value := l.map fun x => .int .u32 x
theorem u32C_length (l : List Int) : (u32C l).length = l.length := by simp [u32C]
theorem u32C_get {l : List Int} {k : Nat} {x : Int} (h : l[k]? = some x) : (u32C l)[k]? = some (.int .u32 x) := by simp [u32C, h]
theorem u32C_set (l : List Int) (k : Nat) (x : Int) : (u32C l).set k (.int .u32 x) = u32C (l.set k x) := by simp [u32C, List.map_set]
theorem u32C_one (l : List Int) : ∀ v ∈ u32C l, v.oneCell' = true := by
  intro v hv; obtain ⟨x, _, rfl⟩ := List.mem_map.1 hv; rfl
theorem bytC_one (l : List UInt8) : ∀ v ∈ bytC l, v.oneCell' = true := by
  intro v hv; obtain ⟨x, _, rfl⟩ := List.mem_map.1 hv; rfl
structure ShaS where
  st : List Int
  rest : List UInt8
  fill : Nat
  size : Int
def ShaS.cells (h : ShaS) : List Value := u32C h.st ++ (bytC h.rest ++ [.int .i64 (h.fill : Nat), .int .i64 h.size])
def ShaS.ok (h : ShaS) : Prop := h.st.length = 8 ∧ h.rest.length = 64 ∧ h.fill ≤ 64
def shaNew : ShaS := ⟨shaStart, List.replicate 64 0, 0, 0⟩
theorem shaNew_ok : shaNew.ok := ⟨rfl, by simp [shaNew], by decide⟩
def Sh (w : World) (b : Nat) (h : ShaS) : Prop := Blk w b 229 h.cells ∧ h.ok
theorem ShaS.cells_length {h : ShaS} (k : h.ok) : h.cells.length = 74 := by simp [ShaS.cells, u32C_length, bytC_length, k.1, k.2.1]
theorem ShaS.one (h : ShaS) : ∀ v ∈ h.cells, v.oneCell' = true := by
  intro v hv; simp only [ShaS.cells, List.mem_append, List.mem_cons, List.mem_nil_iff, or_false] at hv; rcases hv with hv | hv | rfl | rfl
  · exact u32C_one _ _ hv
  · exact bytC_one _ _ hv
  · rfl
  · rfl
theorem Sh.state {w : World} {b : Nat} {h : ShaS} (k : Sh w b h) {i : Nat} {x : Int} (hx : h.st[i]? = some x) : w.cell? ⟨b, i, none⟩ = some (.int .u32 x) := by
  have hi := (List.getElem?_eq_some_iff.1 hx).1; refine k.1.get ?_; rw [ShaS.cells, List.getElem?_append_left (by rw [u32C_length]; exact hi)]; exact u32C_get hx
theorem Sh.byte {w : World} {b : Nat} {h : ShaS} (k : Sh w b h) {i : Nat} {c : UInt8} (hx : h.rest[i]? = some c) : w.cell? ⟨b, 8 + i, none⟩ = some (.int .u8 (c.toNat : Nat)) := by
  have hi := (List.getElem?_eq_some_iff.1 hx).1; have h8 := k.2.1; refine k.1.get ?_; rw [ShaS.cells, List.getElem?_append_right (by rw [u32C_length]; omega), u32C_length, h8, Nat.add_sub_cancel_left, List.getElem?_append_left (by rw [bytC_length]; exact hi)]; exact bytC_get hx
theorem Sh.fill {w : World} {b : Nat} {h : ShaS} (k : Sh w b h) : w.cell? ⟨b, 72, none⟩ = some (.int .i64 (h.fill : Nat)) := by
  refine k.1.get ?_; have h8 := k.2.1; have h64 := k.2.2.1; rw [ShaS.cells, List.getElem?_append_right (by rw [u32C_length]; omega), u32C_length, h8, List.getElem?_append_right (by rw [bytC_length]; omega), bytC_length, h64]; rfl
theorem Sh.size {w : World} {b : Nat} {h : ShaS} (k : Sh w b h) : w.cell? ⟨b, 73, none⟩ = some (.int .i64 h.size) := by
  refine k.1.get ?_; have h8 := k.2.1; have h64 := k.2.2.1; rw [ShaS.cells, List.getElem?_append_right (by rw [u32C_length]; omega), u32C_length, h8, List.getElem?_append_right (by rw [bytC_length]; omega), bytC_length, h64]; rfl
theorem Sh.keep {w w' : World} {S : List Nat} {b : Nat} {h : ShaS} (k : Sh w b h) (kp : Keep S w w') (hb : b ∉ S) : Sh w' b h := ⟨kp.blk k.1 hb, k.2⟩
theorem and31 : ∀ n : Fin 32, 0 < n.val → bits .and .u64 (IntKind.u64.wrap (-(n.val : Int))) 31 = ((32 - n.val : Nat) : Int) := by decide +kernel
theorem bits_Rot (x : Int) (n : Nat) (w : World) (h0 : 0 < n) (h1 : n < 32) : Calls Tryz.prog 251 #[.int .u32 x, .int .i64 (-(n : Int))] w fun e w' => e = .returned (.int .u32 (rotR x n)) ∧ w = w' := by
  have e1 := and31 ⟨n, h1⟩ h0; simp only at e1; obtain ⟨m, hm⟩ : ∃ m : Nat, 32 - n = m := ⟨_, rfl⟩
  rw [hm] at e1; have e2 : IntKind.u64.wrap (32 - (m : Int)) = (n : Nat) := by simp [IntKind.wrap, IntKind.signed, IntKind.bits]; omega
  have e3 : ((m : Nat) : Int).toNat = m := by omega
  have p1 : (m : Int) ≤ 32 := by omega
  have p2 : (n : Int) ≤ 32 := by omega
  unfold rotR; rw [hm]; clear hm; go_enter Tryz.func251, Tryz.ntmps251; go_wp2_with fail; go_ret; exact ⟨rfl, rfl⟩
theorem sha_right (x : Int) (n : Nat) (w : World) (h0 : 0 < n) (h1 : n < 32) : Calls Tryz.prog 225 #[.int .u32 x, .int .i64 (n : Nat)] w fun e w' => e = .returned (.int .u32 (rotR x n)) ∧ w = w' := by
  have H := Lib.hid (bits_Rot x n w h0 h1); have e1 := IntWalk.i64_in (-(n : Int)) (by omega); go_enter Tryz.func225, Tryz.ntmps225; go_wp2_with fail; refine H.out.mono ?_; rintro e w1 ⟨rfl, rfl⟩; go_wp2_with fail; go_ret; exact ⟨rfl, rfl⟩
end Go.Proofs.YtkghgaopcgcheaaGreatDoor
