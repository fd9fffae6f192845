/- Parts of the proof of StockReplays, in order. No conditions but those that each theorem states. -/
import Derived.Test.YtkghgaopcgcheaaGreatDoorYStockReplays0
import Derived.Lib.LaidTab
import Derived.Lib.ItoaNum
import Derived.Lib.ItoaLen
import Derived.Sort.Grow
import Derived.Deep.RegionHeld3
import Derived.Deep.Cut
import Derived.Deep.DeepCutAuto
import Derived.Deep.LoopGhost
import Derived.Deep.AppendLies
import Derived.Deep.RegionLaw
import Derived.Lib.SlTrimSet
import Derived.Lib.SlBytesConst
import Derived.OwnWalk
import Derived.Deep.MidRow
import Derived.Test.YtkghgaopcgcheaaGreatDoorYStockReplays20
set_option maxRecDepth 100000
set_option maxHeartbeats 16000000
set_option linter.unusedSimpArgs false
set_option linter.unusedVariables false
namespace Go.Proofs.YtkghgaopcgcheaaGreatDoor
open Go.RowKit Go.Shelf
def P10 (w : World) : Prop := Lib.TabIs Tryz.prog w "internal/strconv.uint64pow10" .u64 Lib.pow10Tab
theorem P10.keep {w w' : World} {S : List Nat} (h : P10 w) (k : Keep S w w') (hn : ∀ g, Tryz.prog.globalNamed "internal/strconv.uint64pow10" = some g → g ∉ S) : P10 w' := by
  unfold P10 Lib.TabIs World.var? at *
  cases hg : Tryz.prog.globalNamed "internal/strconv.uint64pow10" with
  | none => simp [hg] at h
  | some g =>
    (try rw [hg] at h); simp only [Option.bind_some] at h ⊢
    cases ho : w.heap[g]? with
    | none => rw [ho] at h; simp at h
    | some o =>
      rw [k.heap ho (hn g hg)]; rw [ho] at h; exact h
theorem P10.keep0 {w w' : World} (h : P10 w) (k : Keep [] w w') : P10 w' := h.keep k (by simp)
theorem laid_at {P : Program} {W : World} {name : String} {k : IntKind} {zs : List Int} {g : Nat} {t e : TypeId} {n : Nat}
    (hg : P.globalNamed name = some g) (hty : (P.globals[g]?).map (·.type) = some t) (ht : P.underlying t = some (.array n e)) (he : P.underlying e = some (.int k)) (hce : P.cellsOf e = 1) (hct : P.cellsOf t = n) :
    ∀ {laid : List (String × DataW Unit)} {ps : List MemPlace}, (name, Lib.tabData k zs) ∈ laid → DataW.LaidVars P W laid ps → Lib.TabIs P W name k zs
  | [], ps, hm, _ => by simp at hm
  | x :: r, ps, hm, h => by
    obtain ⟨g', t', cs, fuel, p, q, hg', ht', hvar, hd, hr, _⟩ := h; rcases List.mem_cons.1 hm with e | hm
    · subst e; obtain rfl := Option.some.inj (hg.symm.trans hg'); obtain rfl := Option.some.inj (hty.symm.trans ht'); unfold Lib.TabIs; rw [hvar, ← Lib.cells_of_tab ht he hce hct hd]
    · exact laid_at hg hty ht he hce hct hm hr
theorem P10.laid {W : World} {laid : List (String × DataW Unit)} (h : laidMet Tryz.prog laid W) (hm : ("internal/strconv.uint64pow10", Lib.tabData .u64 Lib.pow10Tab) ∈ laid := by first | (repeat (first | exact List.Mem.head _ | exact List.Mem.tail _ (List.Mem.head _) | exact List.Mem.tail _ (List.Mem.tail _ (List.Mem.head _)))) | simp) : P10 W := by
  obtain ⟨ps, h, _⟩ := h; exact laid_at (g := 5) (t := 309) (e := 219) (n := 20) (by kernel_rfl) rfl (by kernel_rfl) (by kernel_rfl) (by kernel_rfl) (by kernel_rfl) hm h
theorem keep_grow (w : World) (k : Nat) (os : Array Obj) : Keep [] w (Sort.grow (w.drewN k) os) :=
  ⟨rfl, rfl, rfl, by simp [Sort.grow, World.drewN], fun i hi _ => by
    show (w.heap ++ os)[i]? = w.heap[i]?
    rw [Array.getElem?_append_left hi]⟩
theorem hexa_Dec (n : Int) (w : World) (hn : in64 n) (hp : P10 w) :
    Calls Tryz.prog 102 #[.int .i64 n] w fun e w' => e = .returned (.string (S (Lib.itoa n))) ∧ Keep [] w w' := by
  have hI := Lib.hid (fun w' (k : Keep [] w w') => Tryz.strconv_Itoa n hn.1 hn.2 w' (hp.keep0 k)); go_enter Tryz.func102, Tryz.ntmps102; go_wp2_with fail; refine (hI.out _ (Keep.refl _ _)).mono ?_; rintro e w1 ⟨rfl, k, os, rfl⟩; have hk := keep_grow w k os; generalize Sort.grow (w.drewN k) os = w1 at hk; go_wp2_with fail; go_ret; exact ⟨rfl, hk⟩
end Go.Proofs.YtkghgaopcgcheaaGreatDoor
namespace Go.Proofs.YtkghgaopcgcheaaGreatDoor
open Go.RowKit Go.Maps
def Glob (w : World) : Prop := NibT w ∧ ShaT w ∧ P10 w
def isG (x : Nat) : Prop := x = 6 ∨ x = 0 ∨ x = 1 ∨ x = 5
theorem Glob.keep {S : List Nat} {w w' : World} (h : Glob w) (k : Keep S w w') (hS : ∀ x ∈ S, ¬ isG x) : Glob w' := by
  obtain ⟨h1, h2, h3⟩ := h; refine ⟨tab_keep h1 k (fun g hg hm => ?_), ⟨tab_keep h2.1 k (fun g hg hm => ?_), tab_keep h2.2 k (fun g hg hm => ?_)⟩, h3.keep k (fun g hg hm => ?_)⟩
  · rw [show Tryz.prog.globalNamed "manciple/crc.nibbles" = some 6 by kernel_rfl] at hg; cases hg; exact hS _ hm (.inl rfl)
  · rw [show Tryz.prog.globalNamed "manciple/sha.start" = some 0 by kernel_rfl] at hg; cases hg; exact hS _ hm (.inr (.inl rfl))
  · rw [show Tryz.prog.globalNamed "manciple/sha.keys" = some 1 by kernel_rfl] at hg; cases hg; exact hS _ hm (.inr (.inr (.inl rfl)))
  · rw [show Tryz.prog.globalNamed "internal/strconv.uint64pow10" = some 5 by kernel_rfl] at hg; cases hg; exact hS _ hm (.inr (.inr (.inr rfl)))
theorem Glob.keep0 {w w' : World} (h : Glob w) (k : Keep [] w w') : Glob w' := h.keep k (by simp)
theorem Glob.fresh {w : World} (h : Glob w) {b : Nat} (hb : w.heap.size ≤ b) : ¬ isG b := by
  have c0 := World.block_lt_of_cell? w _ (Lib.TabIs.cell h.1 (g := 6) (by kernel_rfl) 0 (by decide)); have c1 := World.block_lt_of_cell? w _ (Lib.TabIs.cell h.2.1.1 (g := 0) (by kernel_rfl) 0 (by decide)); have c2 := World.block_lt_of_cell? w _ (Lib.TabIs.cell h.2.1.2 (g := 1) (by kernel_rfl) 0 (by decide)); have c3 := World.block_lt_of_cell? w _ (Lib.TabIs.cell h.2.2 (g := 5) (by kernel_rfl) 0 (by decide)); simp only at c0 c1 c2 c3; unfold isG; omega
def GP (S : List Nat) (w : World) : Prop := Glob w ∧ ∀ x ∈ S, ¬ isG x
theorem GP.grow {S S' : List Nat} {w w' : World} (h : GP S w) (g : Grow S w S' w') : GP S' w' :=
  ⟨h.1.keep g.1 h.2, fun x hx => by
    rcases g.2 x hx with e | e
    · exact h.2 x e
    · exact h.1.fresh e⟩
theorem GP.keep0 {S : List Nat} {w w' : World} (h : GP S w) (k : Keep [] w w') : GP S w' := ⟨h.1.keep0 k, h.2⟩
def cutS (S : List Nat) (w : World) : List Nat := S.filter fun x => decide (x < w.heap.size)
theorem mem_cutS {S : List Nat} {w : World} {x : Nat} : x ∈ cutS S w ↔ x ∈ S ∧ x < w.heap.size := by simp [cutS]
theorem Pk.cut {S : List Nat} {w : World} {d : Nat} {K : Dsk} (h : Pk S w d K) : Pk (cutS S w) w d K := by
  obtain ⟨bm, E, ops, h1, h2, h3, h4⟩ := h; exact ⟨bm, E, ops, h1, h2, fun x hx => mem_cutS.2 ⟨h3 x hx, h1.lt x hx⟩, h4⟩
theorem Grow.cut {A B : List Nat} {w w' : World} (h : Grow A w B w') : Grow A w (cutS B w') w' := ⟨h.1, fun x hx => h.2 x (mem_cutS.1 hx).1⟩
theorem Lg.cut {S : List Nat} {w : World} {l d n sure : Nat} {sick : Bool} {K : Dsk} (h : Lg S w l d K n sure sick) : Lg (cutS S w) w l d K n sure sick :=
  ⟨h.1.cut, h.2.1, fun hm => h.2.2 (mem_cutS.1 hm).1⟩
theorem diary_Open {S0 : List Nat} (d : Nat) (K K' : Dsk) (b : List UInt8) (w : World) (h : Pk S0 w d K) (hG : GP S0 w) (hoff : K.off = false) (hc : loadD K = some (b, K')) (hbl : b.length ≤ 4194304) :
    Calls Tryz.prog 41 #[.pointer (some ⟨d, 0, none⟩)] w fun e w' => ∃ l v S', e = .returned (.tuple #[.pointer (some ⟨l, 0, none⟩), v, .int .i64 0]) ∧ Own Slp.cells 38 w.heap.size 27 w' v (allL b).1 ∧
      Lg S' w' l d K' (allL b).1.length (allL b).1.length (decide ((allL b).2 < b.length)) ∧ Grow S0 w (l :: S') w' ∧ ∀ g, v.ownBlock = some g → g ∉ l :: S' := by
  have HLD := Lib.hid (diary_load d K K' b w h hoff hc); have HAL := Lib.hid (fun w' (t : NibT w') => slip_All b w' hbl t); have hsz := S_size b; have HG := Lib.hid hG; obtain ⟨A, hA⟩ : ∃ A, allL b = A := ⟨_, rfl⟩
  obtain ⟨L, m⟩ := A; rw [hA] at HAL ⊢; clear h hG hoff hc hA; go_enter Tryz.func41, Tryz.ntmps41; go_wp2_with fail; refine HLD.out.mono ?_; rintro e w1 ⟨rfl, S1, p1, g1⟩; have HP1 := Lib.hid (And.intro p1 g1); have HT1 := Lib.hid (HG.out.grow g1).1.1; clear p1 g1; go_wp2_with fail; refine (HAL.out w1 HT1.out).mono ?_; rintro e w2 ⟨v, rfl, ho, k2⟩; obtain ⟨sa, sc, rfl, _⟩ := ho.shape; have HO := Lib.hid (And.intro ho k2); clear ho k2; have q1 : decide ((m : Int) < (b.length : Nat)) = decide (m < b.length) := decide_eq_decide.2 (by omega); go_wp2_with fail; refine bodyPost_ret (results_tmp3 rfl _ _ _) rfl ?_; have hgr := HP1.out.2; have hsz2 := (HO.out.2).size; have h0 : w.heap.size ≤ w1.heap.size := hgr.1.size; have hown : Own Slp.cells 38 w.heap.size 27 w2 (.slice sa L.length sc) L := HO.out.1.lower h0; have k3 : Keep [] w2 (w2.alloc (.cells #[.pointer (some ⟨d, 0, none⟩), .int .i64 (L.length : Nat), .int .i64 (L.length : Nat), .int .i64 (m : Nat), .bool (decide (m < b.length))] 150)) := (Keep.refl _ _).alloc _; have hp2 := (HP1.out.1.cut).keep0 HO.out.2; refine ⟨w2.heap.size, _, cutS S1 w1, rfl, hown.keep0 k3, ⟨hp2.keep0 k3, ⟨(m : Nat), Blk.newA w2 _ _⟩, fun hm => by have := (mem_cutS.1 hm).2; omega⟩, ?_, ?_⟩
  · refine ⟨hgr.1.trans' ((HO.out.2).trans k3) (by simp) , fun x hx => ?_⟩; rcases List.mem_cons.1 hx with rfl | hx
    · exact .inr (by omega)
    · exact hgr.2 x (mem_cutS.1 hx).1
  · intro g hg hm; have hl := HO.out.1.lt g hg; rcases List.mem_cons.1 hm with rfl | hm
    · omega
    · have := (mem_cutS.1 hm).2; omega
theorem numB_length (n : Int) (k : Nat) : (numB n k).length = k := by simp [numB]
theorem slipW_len {x : Slp} (h : goodS x = true) : (slipW x).length ≤ 600 := by
  obtain ⟨h1, h2, h3, _⟩ := good_len h; have hd := x.dig.2; unfold slipW framedM bodyM crcTail pgText; simp only [List.length_append, List.length_map, List.length_range, List.length_cons, List.length_nil]
  repeat' split
  all_goals (try simp only [List.length_append, List.length_cons, numB_length, List.length_nil])
  all_goals omega
theorem slipIn_good {x : Slp} (h : goodS x = true) : slipIn x := by
  obtain ⟨h1, h2, h3, h4, h5⟩ := good_len h; have hk : 1 ≤ x.kind ∧ x.kind ≤ 6 := by simpa [isKind] using h4
  unfold slipIn in64; have : maxLen ≥ 1000 := by decide
  exact ⟨by omega, by omega, by omega, by omega, by omega, by omega⟩
def recW (L : List Slp) : List UInt8 := L.flatMap slipW
theorem recW_take {L : List Slp} {k : Nat} {x : Slp} (h : L[k]? = some x) : recW (L.take (k + 1)) = recW (L.take k) ++ slipW x := by
  have e : L.take (k + 1) = L.take k ++ [x] := by rw [List.take_add_one, h]; rfl
  rw [e]; simp [recW]
theorem Sl.rng {α : Type} {enc : α → List Value} {n : Nat} (hn : ∀ x, (enc x).length = n) {w : World} {v : Value} {L : List α} (h : Sl enc n w v L) {i : Nat} {x : α} (hi : L[i]? = some x) :
    ∃ b off cap, v = .slice (some ⟨b, off, none⟩) L.length cap ∧ w.rangeAt b (off + i * n) (enc x) := by
  obtain ⟨b, off, cap, rfl, _, _, hc⟩ := h.cell hi; refine ⟨b, off, cap, rfl, fun k v hk => ?_⟩
  have hlt : k < n := by
    rcases Nat.lt_or_ge k (enc x).length with e | e
    · rw [hn] at e; exact e
    · rw [List.getElem?_eq_none e] at hk; cases hk
  rw [hc k hlt]; exact hk
theorem diary_records (L : List Slp) (v : Value) (w : World) (hs : Sl Slp.cells 38 w v L) (hg : ∀ x ∈ L, goodS x = true) (ht : NibT w) (hl : L.length ≤ 1000000) :
    Calls Tryz.prog 92 #[v] w fun e w' => e = .returned (.tuple #[.string (S (recW L)), .int .i64 0]) ∧ Keep [] w w' := by
  obtain ⟨aa, ca, rfl, hcap⟩ := hs.shape; have hB := Lib.hid (bld_new (Keep.refl [] w)); have HS := Lib.hid hs; have HG := Lib.hid hg; have HWR := Lib.hid (fun (x : Slp) w' (hx : goodS x = true) (k : Keep [] w w') => slip_Write x w' (slipIn_good hx) hx (ht.keep0 k)); clear hs hg ht; go_enter Tryz.func92, Tryz.ntmps92; go_wp2_with fail; generalize w.heap.size = b at hB
  go_loopg [11] L.length (fun g i wr => ∃ (k : Nat) (T : List UInt8), i = .int .i64 k ∧ k ≤ L.length ∧ g = L.length - k ∧ T.length ≤ k * 600 ∧ Hid (T = recW (L.take k)) ∧ Hid (Bld w wr b T))
  case atStart => exact ⟨0, [], rfl, Nat.zero_le _, by omega, by simp, Lib.hid (by simp [recW]), hB⟩
  case round =>
    obtain ⟨k, T, rfl, hk, hgk, hT, HE, HB⟩ := hrel; by_cases hlt : k < L.length
    · obtain ⟨x, hx⟩ : ∃ x, L[k]? = some x := ⟨_, List.getElem?_eq_getElem hlt⟩
      obtain ⟨ba, oa, ca', hva, hrg⟩ := (HS.out.keep Slp.cells_length (by omega) HS.out HB.out.kept (by simp) (Nat.le_refl _)).rng Slp.cells_length hx; cases hva; have hgx := HG.out x (List.mem_of_getElem? hx); have hwr := fun w' (k : Keep [] w w') => HWR.out x w' hgx k
      obtain ⟨XC, hXC⟩ : ∃ z, x.cells = z := ⟨_, rfl⟩
      rw [hXC] at hrg hwr; have HXC := Lib.hid (show XC.length = 38 ∧ ∀ v ∈ XC, v.oneCell' = true from ⟨by rw [← hXC]; exact Slp.cells_length _, by rw [← hXC]; exact Slp.one _⟩); have HW := Lib.hid hwr; have HR := Lib.hid hrg; have hsl := slipW_len hgx; have HN := Lib.hid (recW_take hx); have sP := S_size (slipW x); have f1 : decide ((k : Int) < (L.length : Nat)) = true := decide_eq_true (by omega); have wk := IntWalk.i64_in ((k : Int) + 1) (by omega); clear hwr hrg hXC hx hgx hcap
      go_upto_region 5 with (first | ((with_reducible refine gL 14 13 ?_); refine gl ba (oa + k * 38) XC HR.out (by rw [HXC.out.1]; kernel_rfl) ?_; try simp only [sq]) | ((with_reducible refine gS 6 14 ?_); refine wpList_store_new rfl 27 (.tmp 6) (.tmp 14) rfl _ XC (by rfl) (by rfl) (by rw [HXC.out.1]; kernel_rfl) (by rw [HXC.out.1]; kernel_rfl) HXC.out.2 ?_) | fail)
      obtain ⟨n1, hn1⟩ : ∃ n, wr.heap.size = n := ⟨_, rfl⟩
      have hb1 := Blk.new wr XC 27; have hB1 := HB.out.keep0 ((Keep.refl [] wr).alloc (.cells XC.toArray 27)); rw [hn1] at hb1; (try rw [hn1]); generalize wr.alloc (.cells XC.toArray 27) = w1 at hb1 hB1 ⊢; have B1 := Lib.hid hb1; have HB1 := Lib.hid hB1; clear hb1 hB1 hn1 HR HB
      go_wp2_with (first | ((with_reducible refine gL 16 6 ?_); refine gl n1 0 XC B1.out.rng (by rw [HXC.out.1]; kernel_rfl) ?_; try simp only [sq]) | fail); refine (HW.out _ HB1.out.kept).mono ?_; rintro e w2 ⟨rfl, k2⟩; have HB2 := Lib.hid (HB1.out.keep0 k2); clear k2 B1 HB1; go_wp2_with fail; refine (bld_write HB2.out (slipW x) (by omega)).mono ?_; rintro e w3 ⟨rfl, h3⟩; have HB3 := Lib.hid h3; clear h3 HB2; go_wp2_with fail
      go_roundg (L.length - (k + 1))
      case measure => omega
      case rel => exact ⟨k + 1, T ++ slipW x, by go_num, by omega, rfl, by simp; omega, Lib.hid (by rw [HN.out, HE.out]), HB3⟩
    · have hke : k = L.length := by omega
      have f1 : decide ((k : Int) < (L.length : Nat)) = false := decide_eq_false (by omega); have HF := Lib.hid (show T = recW L from by rw [HE.out, hke, List.take_length]); clear hcap; go_wp2_with fail; refine (bld_string HB.out).mono ?_; rintro e w3 ⟨rfl, k3⟩; have K3 := Lib.hid k3; clear k3; go_wp2_with fail; go_ret2; exact ⟨by rw [HF.out]; rfl, K3.out⟩
def putD (t : List UInt8) (K : Dsk) : Option Dsk := if t = [] then some K else appendD dW t K
def replaceD (t : List UInt8) (K : Dsk) : Option Dsk := (sweepD K).bind fun K1 => (createD dW K1).bind fun K2 => (putD t K2).bind fun K3 => (syncD dW K3).bind fun K4 => renameD dW dN K4
theorem diary_replace {S0 : List Nat} (l d n sure : Nat) (sick : Bool) (t : List UInt8) (K K' : Dsk) (w : World) (h : Lg S0 w l d K n sure sick) (hoff : K.off = false) (hc : replaceD t K = some K') :
    Calls Tryz.prog 93 #[.pointer (some ⟨l, 0, none⟩), .string (S t)] w fun e w' => e = .returned (.int .i64 0) ∧ ∃ S', Lg S' w' l d K' n sure sick ∧ Grow (l :: S0) w (l :: S') w' := by
  unfold replaceD at hc; obtain ⟨K1, hs, hc⟩ := Option.bind_eq_some_iff.1 hc; obtain ⟨K2, hm, hc⟩ := Option.bind_eq_some_iff.1 hc; obtain ⟨K3, hp, hc⟩ := Option.bind_eq_some_iff.1 hc; obtain ⟨K4, hy, hr⟩ := Option.bind_eq_some_iff.1 hc; clear hc; have HSW := Lib.hid (fun (S0 : List Nat) w' (p : Pk S0 w' d K) => diary_sweep d K K1 w' p hoff hs); have HCR := Lib.hid (fun (S0 : List Nat) w' (p : Pk S0 w' d K1) => show Calls Tryz.prog 103 #[.pointer (some ⟨d, 0, none⟩), .string ⟨#[100, 105, 97, 114, 121, 46, 110, 101, 119]⟩] w' fun e w'' => e = .returned (.int .i64 0) ∧ ∃ S', Pk S' w'' d K2 ∧ Grow S0 w' S' w'' from plank_Create d K1 K2 dW w' p hm); have HSY := Lib.hid (fun (S0 : List Nat) w' (p : Pk S0 w' d K3) => show Calls Tryz.prog 136 #[.pointer (some ⟨d, 0, none⟩), .string ⟨#[100, 105, 97, 114, 121, 46, 110, 101, 119]⟩] w' fun e w'' => e = .returned (.int .i64 0) ∧ ∃ S', Pk S' w'' d K4 ∧ Grow S0 w' S' w'' from plank_Sync d K3 K4 dW w' p hy); have HRN := Lib.hid (fun (S0 : List Nat) w' (p : Pk S0 w' d K4) => show Calls Tryz.prog 148 #[.pointer (some ⟨d, 0, none⟩), .string ⟨#[100, 105, 97, 114, 121, 46, 110, 101, 119]⟩, .string ⟨#[100, 105, 97, 114, 121]⟩] w' fun e w'' => e = .returned (.int .i64 0) ∧ ∃ S', Pk S' w'' d K' ∧ Grow S0 w' S' w'' from plank_Rename d K4 K' dW dN w' p hr); have HL := Lib.hid h; obtain ⟨size, hb⟩ := h.2.1; have c0 : w.cell? ⟨l, 0, none⟩ = some (.pointer (some ⟨d, 0, none⟩)) := hb.get rfl; have hsz := S_size t; unfold putD at hp; by_cases ht : t = []
  · rw [if_pos ht] at hp; injection hp with hp
    subst hp; subst ht; have q1 : (S []).toList.isEmpty = true := by rw [S_toList]; rfl
    clear h hb hs hm hy hr; go_enter Tryz.func93, Tryz.ntmps93; go_wp2_with fail; refine (HSW.out _ _ HL.out.1).mono ?_; rintro e w1 ⟨rfl, S1, p1, g1⟩; have HL1 := Lib.hid (HL.out.op p1 g1); clear p1 g1 c0; obtain ⟨size1, hb1⟩ := HL1.out.1.2.1; have c0 : w1.cell? ⟨l, 0, none⟩ = some (.pointer (some ⟨d, 0, none⟩)) := hb1.get rfl; clear hb1; go_wp2_with fail; refine (HCR.out _ _ HL1.out.1.1).mono ?_; rintro e w2 ⟨rfl, S2, p2, g2⟩; have HL2 := Lib.hid (show Lg S2 w2 l d K2 n sure sick ∧ Grow (l :: S0) w (l :: S2) w2 from ⟨(HL1.out.1.op p2 g2).1, HL1.out.2.trans (HL1.out.1.op p2 g2).2⟩); clear p2 g2 c0 HL1; obtain ⟨size1, hb1⟩ := HL2.out.1.2.1; have c0 : w2.cell? ⟨l, 0, none⟩ = some (.pointer (some ⟨d, 0, none⟩)) := hb1.get rfl; clear hb1; go_wp2_with fail; refine (HSY.out _ _ HL2.out.1.1).mono ?_; rintro e w3 ⟨rfl, S3, p3, g3⟩; have HL3 := Lib.hid (show Lg S3 w3 l d K4 n sure sick ∧ Grow (l :: S0) w (l :: S3) w3 from ⟨(HL2.out.1.op p3 g3).1, HL2.out.2.trans (HL2.out.1.op p3 g3).2⟩); clear p3 g3 c0 HL2; obtain ⟨size1, hb1⟩ := HL3.out.1.2.1; have c0 : w3.cell? ⟨l, 0, none⟩ = some (.pointer (some ⟨d, 0, none⟩)) := hb1.get rfl; clear hb1; go_wp2_with fail; refine (HRN.out _ _ HL3.out.1.1).mono ?_; rintro e w4 ⟨rfl, S4, p4, g4⟩; have HL4 := Lib.hid (show Lg S4 w4 l d K' n sure sick ∧ Grow (l :: S0) w (l :: S4) w4 from ⟨(HL3.out.1.op p4 g4).1, HL3.out.2.trans (HL3.out.1.op p4 g4).2⟩); clear p4 g4 c0 HL3; go_wp2_with fail; go_ret; exact ⟨rfl, S4, HL4.out⟩
  · rw [if_neg ht] at hp; have HAP := Lib.hid (fun (S0 : List Nat) w' (p : Pk S0 w' d K2) => show Calls Tryz.prog 107 #[.pointer (some ⟨d, 0, none⟩), .string ⟨#[100, 105, 97, 114, 121, 46, 110, 101, 119]⟩, .string (S t)] w' fun e w'' => e = .returned (.int .i64 0) ∧ ∃ S', Pk S' w'' d K3 ∧ Grow S0 w' S' w'' from plank_Append d K2 K3 dW t w' p hp); have q1 : (S t).toList.isEmpty = false := by rw [S_toList]; cases t with | nil => exact absurd rfl ht | cons a r => rfl
    clear h hb hs hm hy hr hp; go_enter Tryz.func93, Tryz.ntmps93; go_wp2_with fail; refine (HSW.out _ _ HL.out.1).mono ?_; rintro e w1 ⟨rfl, S1, p1, g1⟩; have HL1 := Lib.hid (HL.out.op p1 g1); clear p1 g1 c0; obtain ⟨size1, hb1⟩ := HL1.out.1.2.1; have c0 : w1.cell? ⟨l, 0, none⟩ = some (.pointer (some ⟨d, 0, none⟩)) := hb1.get rfl; clear hb1; go_wp2_with fail; refine (HCR.out _ _ HL1.out.1.1).mono ?_; rintro e w2 ⟨rfl, S2, p2, g2⟩; have HL2 := Lib.hid (show Lg S2 w2 l d K2 n sure sick ∧ Grow (l :: S0) w (l :: S2) w2 from ⟨(HL1.out.1.op p2 g2).1, HL1.out.2.trans (HL1.out.1.op p2 g2).2⟩); clear p2 g2 c0 HL1; obtain ⟨size1, hb1⟩ := HL2.out.1.2.1; have c0 : w2.cell? ⟨l, 0, none⟩ = some (.pointer (some ⟨d, 0, none⟩)) := hb1.get rfl; clear hb1; go_wp2_with fail
    trace_state
    refine (HAP.out _ _ HL2.out.1.1).mono ?_; rintro e wa ⟨rfl, Sa, pa, ga⟩; have HLa := Lib.hid (show Lg Sa wa l d K3 n sure sick ∧ Grow (l :: S0) w (l :: Sa) wa from ⟨(HL2.out.1.op pa ga).1, HL2.out.2.trans (HL2.out.1.op pa ga).2⟩); clear pa ga c0 HL2; obtain ⟨size1, hb1⟩ := HLa.out.1.2.1; have c0 : wa.cell? ⟨l, 0, none⟩ = some (.pointer (some ⟨d, 0, none⟩)) := hb1.get rfl; clear hb1; go_wp2_with fail; refine (HSY.out _ _ HLa.out.1.1).mono ?_; rintro e w3 ⟨rfl, S3, p3, g3⟩; have HL3 := Lib.hid (show Lg S3 w3 l d K4 n sure sick ∧ Grow (l :: S0) w (l :: S3) w3 from ⟨(HLa.out.1.op p3 g3).1, HLa.out.2.trans (HLa.out.1.op p3 g3).2⟩); clear p3 g3 c0 HLa; obtain ⟨size1, hb1⟩ := HL3.out.1.2.1; have c0 : w3.cell? ⟨l, 0, none⟩ = some (.pointer (some ⟨d, 0, none⟩)) := hb1.get rfl; clear hb1; go_wp2_with fail; refine (HRN.out _ _ HL3.out.1.1).mono ?_; rintro e w4 ⟨rfl, S4, p4, g4⟩; have HL4 := Lib.hid (show Lg S4 w4 l d K' n sure sick ∧ Grow (l :: S0) w (l :: S4) w4 from ⟨(HL3.out.1.op p4 g4).1, HL3.out.2.trans (HL3.out.1.op p4 g4).2⟩); clear p4 g4 c0 HL3; go_wp2_with fail; go_ret; exact ⟨rfl, S4, HL4.out⟩
theorem diary_Rewrite {S0 : List Nat} (l d n sure : Nat) (sick : Bool) (L : List Slp) (v : Value) (K K' : Dsk) (w : World) (h : Lg S0 w l d K n sure sick) (hG : GP S0 w) (hs : Sl Slp.cells 38 w v L) (hg : ∀ x ∈ L, goodS x = true) (hl : L.length ≤ 1000000) (hoff : K.off = false) (hc : replaceD (recW L) K = some K') :
    Calls Tryz.prog 46 #[.pointer (some ⟨l, 0, none⟩), v] w fun e w' => e = .returned (.int .i64 0) ∧ ∃ S', Lg S' w' l d K' L.length L.length false ∧ Grow (l :: S0) w (l :: S') w' := by
  have HRC := Lib.hid (diary_records L v w hs hg hG.1.1 hl); obtain ⟨aa, ca, rfl, hcap⟩ := hs.shape; have HRP := Lib.hid (fun w' (p : Lg S0 w' l d K n sure sick) => diary_replace l d n sure sick (recW L) K K' w' p hoff hc); obtain ⟨t, htt⟩ : ∃ t, recW L = t := ⟨_, rfl⟩
  rw [htt] at HRC HRP; have hsz := S_size t; have HL := Lib.hid h; clear h hG hs hg hoff hc htt; go_enter Tryz.func46, Tryz.ntmps46; go_wp2_with fail; refine HRC.out.mono ?_; rintro e w1 ⟨rfl, k1⟩; have HL1 := Lib.hid (HL.out.keep0 k1); have K1 := Lib.hid k1; clear k1; go_wp2_with fail; refine (HRP.out _ HL1.out).mono ?_; rintro e w2 ⟨rfl, S2, p2, g2⟩; obtain ⟨size2, hb2⟩ := p2.2.1; have f1 := hb2.frozen 1; have f2 := hb2.frozen 2; have f3 := hb2.frozen 3; have f4 := hb2.frozen 4; have b1 := hb2.set 1 (.int .i64 (L.length : Nat)); have b2 := b1.set 2 (.int .i64 (L.length : Nat)); have b3 := b2.set 3 (.int .i64 (t.length : Nat)); have b4 := b3.set 4 (.bool false); have c1 := hb2.get (k := 1) rfl; have c2 := b1.get (k := 2) rfl; have c3 := b2.get (k := 3) rfl; have c4 := b3.get (k := 4) rfl; have HF := Lib.hid (p2.nums (n' := L.length) (sure' := L.length) (sick' := false) (((((Keep.refl [l] w2).setCell _ _ (by simp)).setCell _ _ (by simp)).setCell _ _ (by simp)).setCell _ _ (by simp)) b4); have HG := Lib.hid (show Grow (l :: S0) w (l :: S2) w2 from Grow.pre K1.out g2); clear p2 g2 hb2 b1 b2 b3 b4; go_wp2_with fail; go_ret; exact ⟨rfl, S2, HF.out.1, HG.out.trans HF.out.2⟩
end Go.Proofs.YtkghgaopcgcheaaGreatDoor
namespace Go.Proofs.YtkghgaopcgcheaaGreatDoor
open Go.RowKit Go.Shelf
def digB16 : List UInt8 := [48, 49, 50, 51, 52, 53, 54, 55, 56, 57, 97, 98, 99, 100, 101, 102]
def dgH (n : Nat) : UInt8 := digB16.getD n 0
def hexS (l : List UInt8) : List UInt8 := l.flatMap fun b => [dgH (b.toNat / 16), dgH (b.toNat % 16)]
theorem hexS_len : ∀ l : List UInt8, (hexS l).length = 2 * l.length
  | [] => rfl
  | b :: l => by
    have e : hexS (b :: l) = [dgH (b.toNat / 16), dgH (b.toNat % 16)] ++ hexS l := rfl; rw [e, List.length_append, hexS_len l]; simp; omega
theorem hexS_snoc (l : List UInt8) (b : UInt8) : hexS (l ++ [b]) = hexS l ++ [dgH (b.toNat / 16), dgH (b.toNat % 16)] := by unfold hexS; simp
theorem dgH_get {n : Nat} (h : n < 16) : ∀ hk : n < (⟨#[48, 49, 50, 51, 52, 53, 54, 55, 56, 57, 97, 98, 99, 100, 101, 102]⟩ : ByteArray).size, (⟨#[48, 49, 50, 51, 52, 53, 54, 55, 56, 57, 97, 98, 99, 100, 101, 102]⟩ : ByteArray)[n] = dgH n := by
  have key : ∀ n : Fin 16, ∀ hk : n.1 < (⟨#[48, 49, 50, 51, 52, 53, 54, 55, 56, 57, 97, 98, 99, 100, 101, 102]⟩ : ByteArray).size, (⟨#[48, 49, 50, 51, 52, 53, 54, 55, 56, 57, 97, 98, 99, 100, 101, 102]⟩ : ByteArray)[n.1] = dgH n.1 := by decide +kernel
  exact key ⟨n, h⟩
theorem conv_lt (w : World) (E : TypeId) (s : ByteArray) : w.heap.size < (Lib.bytesWorld w E s).heap.size := by rw [Lib.bytesWorld_size]; omega
theorem and15 {n : Nat} (h : n < 256) : bits BinOp.and IntKind.u8 (n : Int) 15 = (n : Int) % 16 := by
  have key : ∀ n : Fin 256, bits BinOp.and IntKind.u8 ((n.1 : Nat) : Int) 15 = ((n.1 : Nat) : Int) % 16 := by decide +kernel
  exact key ⟨n, h⟩
theorem step_appendQ {P : Program} {ops : Array Oper} {o : Oper} {a : Act} {w : World} {K : Act → World → Prop} {Q : Exit → Act → World → Prop} {X : Prop} (hgd : o.guard = none) (s x : Operand) (t : TypeId)
    (ho : o.op = .call { callee := .builtin .append, args := #[s, x], argTypes := #[t, t] })
    {α : Type} {enc : α → List Value} {n base : Nat} {E : TypeId} {L M : List α} {v : Value}
    (i : TypeInfo) (z : Value) (bytes : Nat) (ht : P.underlying t = some (.slice E)) (HI : Hid (P.info? E = some i ∧ i.zero = some z ∧ i.size = n ∧ i.bytes = bytes)) (hzs : z.cells.size = n) (hn0 : 0 < n)
    (hn : ∀ x, (enc x).length = n) (h1 : ∀ x, ∀ u ∈ enc x, u.oneCell' = true) (hb0 : base ≤ w.heap.size)
    (hs : a.eval s = v) (hown : Own enc n base E w v L) (ad : Addr) (c : Nat) (hx : a.eval x = .slice (some ad) M.length c) (hM : ∀ j u, (rows enc M)[j]? = some u → w.cell? (ad.add j) = some u)
    (h63 : L.length + M.length ≤ maxLen) (hbytes : (L.length + M.length) * bytes ≤ 140737488355328)
    (h : ∀ v' w', Own enc n base E w' v' (L ++ M) → w.grownBy w' v.ownBlock → (v'.ownBlock = v.ownBlock ∨ v'.ownBlock = some w.heap.size) → K (a.put o.dst v') w') : if Region.wanted o (yielded ops a.tmps) = true then Oper.wp P o a w K Q else X := by
  rw [if_pos (by simp [Region.wanted, hgd])]
  obtain ⟨v', w', hrun, h2, h3, h4, h5⟩ := run_append_own_at (P := P) w base t o.type E i z n bytes ht HI.out.1 HI.out.2.1 HI.out.2.2.1 HI.out.2.2.2 hzs hn0 v L.length (rows enc L) hown ad M.length c (rows enc M) (by rw [rows_length hn M, Nat.mul_comm]) hM (fun u hu => by
        unfold rows at hu; obtain ⟨l, hl, hu⟩ := List.mem_flatMap.1 hu
        exact h1 l u hu) h63 hbytes hb0
  unfold Oper.wp; simp [execOp, ho, resolve, invoke, builtin, hs, hx, hrun, Result.andThen]; refine h v' w' ?_ h3 h5; unfold Own; have e : rows enc (L ++ M) = rows enc L ++ rows enc M := by simp [rows]
  rw [e, List.length_append]; exact h2
theorem hexa_Hex (l : List UInt8) (w : World) (hs : l.length ≤ 1048576) :
    Calls Tryz.prog 180 #[.string (S l)] w fun e w' => e = .returned (.string (S (hexS l))) ∧ Keep [] w w' := by
  have hsz := S_size l; obtain ⟨i0, hi, hz0, hz1, hz2⟩ := info_parts u8info; have HI := Lib.hid (And.intro hi (And.intro hz0 (And.intro hz1 hz2))); have wm := IntWalk.i64_in (2 * (l.length : Int)) (by omega); have HM := Lib.hid (show ∀ w' : World, w'.ownsRow w.heap.size 5 1 (.slice (some ⟨w.heap.size, 0, none⟩) 0 (2 * l.length)) 0 [] → w.grownBy w' none → Own byteC 1 w.heap.size 5 w' (.slice (some ⟨w.heap.size, 0, none⟩) 0 (2 * l.length)) (hexS (l.take 0)) ∧ Keep [] w w' from fun w' h1 h2 => ⟨by rw [List.take_zero]; exact h1, (Keep.refl [] w).grown h2 (fun k hk => by cases hk)⟩); go_enter Tryz.func180, Tryz.ntmps180
  go_wp2_with (first
    | (with_reducible (show wpList _ _ _ ((⟨_, .makeSlice _ _ _, _, _, _, none⟩ : Oper) :: _) _ _)
       refine wpList_make_own _ rfl _ _ 126 rfl w.heap.size 5 i0 _ 1 Tryz.underlying126 hi hz0 hz1 .i64 .i64 _ (2 * l.length) rfl rfl (by omega) (by rw [hz2]; omega) (by unfold maxLen; omega) (Nat.le_refl _) ?_; intro w1 hr1 hg1; have ho := HM.out w1 hr1 hg1; have hcv := conv_run w1 (S l); have hcl : ∀ (k : Nat) (c : UInt8), l[k]? = some c → _ := fun k c h => conv_at w1 5 h
       have HC0 := Lib.hid hcl; have hkp := conv_keep w1 5 (S l); have HO := Lib.hid (show Own byteC 1 w.heap.size 5 (Lib.bytesWorld w1 5 (S l)) (.slice (some ⟨w.heap.size, 0, none⟩) 0 (2 * l.length)) (hexS (l.take 0)) ∧ Keep [] w (Lib.bytesWorld w1 5 (S l)) ∧ w.heap.size < w1.heap.size ∧ w1.heap.size < (Lib.bytesWorld w1 5 (S l)).heap.size from ⟨ho.1.keep0 hkp, ho.2.trans hkp, (ho.1.lt w.heap.size rfl).2, conv_lt w1 5 (S l)⟩); clear hr1 hg1 ho hkp hcl; generalize Lib.bytesWorld w1 5 (S l) = wb at hcv HC0 HO; try simp only [sq])
    | fail)
  go_loopg [3, 13] l.length (fun g v i wr => ∃ k : Nat, i = .int .i64 (k : Nat) ∧ k ≤ l.length ∧ g = l.length - k ∧ Hid (Own byteC 1 w.heap.size 5 wr v (hexS (l.take k))) ∧ Hid (Keep [] w wr) ∧ Hid ((∀ (k : Nat) (c : UInt8), l[k]? = some c → wr.cell? ⟨w1.heap.size, k, none⟩ = some (.int .u8 c.toNat)) ∧ (∀ g, v.ownBlock = some g → g ≠ w1.heap.size) ∧ w1.heap.size < wr.heap.size))
  case atStart => exact ⟨0, rfl, Nat.zero_le _, rfl, Lib.hid HO.out.1, Lib.hid HO.out.2.1, Lib.hid ⟨HC0.out, fun g hg => by have e3 : w.heap.size = g := (by simpa [Value.ownBlock] using hg); have := HO.out.2.2.1; omega, HO.out.2.2.2⟩⟩
  case round =>
    obtain ⟨k, rfl, hk, hg, HOw, HK, HC⟩ := hrel; by_cases hlt : k < l.length
    · obtain ⟨c, hc⟩ : ∃ c, l[k]? = some c := ⟨_, List.getElem?_eq_getElem hlt⟩
      have a0 := HC.out.1 k c hc; have c8 := u8_nat c; have HCc := Lib.hid hc; have wk := IntWalk.i64_in ((k : Int) + 1) (by omega); clear hc; have e1 := dgH_get (n := c.toNat / 16) (by omega); have e2 := dgH_get (n := c.toNat % 16) (by omega); have ha := and15 c8; have f0 : (0 : Int) ≤ (c.toNat : Int) / 16 := by omega
      have f1 : (c.toNat : Int) / 16 < 16 := by omega
      have f2 : ((c.toNat : Int) / 16).toNat = c.toNat / 16 := by omega
      have f3 : (0 : Int) ≤ (c.toNat : Int) % 16 := by omega
      have f4 : (c.toNat : Int) % 16 < 16 := by omega
      have f5 : ((c.toNat : Int) % 16).toNat = c.toNat % 16 := by omega
      go_wp2_with fail; refine wp_region_any (by kernel_rfl) ?_; change wpAny _ _ _ _ _ _ _ (World.drew _); refine wpAny_take (i := 0) (v := ?_) rfl (by kernel_rfl) (by kernel_rfl) (by kernel_rfl) (fun _ _ _ h => h) (Or.inl ⟨by rfl, ?_⟩) ?_; rotate_left
      · (intro w; go_simp) <;> (with_reducible rfl)
      (try simp only [Act.put, sqA]); refine wpAny_take (i := 1) (v := ?_) rfl (by kernel_rfl) (by kernel_rfl) (by kernel_rfl) (fun _ _ _ h => h) (Or.inl ⟨by rfl, ?_⟩) ?_; rotate_left
      · (intro w; go_simp) <;> (with_reducible rfl)
      (try simp only [Act.put]); refine wpAny_take (i := 2) (v := .int .u8 ((c.toNat / 16 : Nat) : Int)) rfl (by kernel_rfl) (by kernel_rfl) (by kernel_rfl) (fun _ _ _ h => h) (Or.inl ⟨by rfl, ?_⟩) ?_
      · intro w; go_simp
      (try simp only [Act.put]); refine wpAny_take (i := 3) (v := .int .u8 ((dgH (c.toNat / 16)).toNat : Int)) rfl (by kernel_rfl) (by kernel_rfl) (by kernel_rfl) (fun _ _ _ h => h) (Or.inl ⟨by rfl, ?_⟩) ?_
      · intro w; go_simp
      (try simp only [Act.put]); refine wpAny_take (i := 4) (v := ?_) rfl (by kernel_rfl) (by kernel_rfl) (by kernel_rfl) (fun _ _ _ h => h) (Or.inl ⟨by rfl, ?_⟩) ?_; rotate_left
      · (intro w; go_simp) <;> (with_reducible rfl)
      (try simp only [Act.put]); refine wpAny_take (i := 5) (v := .int .u8 ((c.toNat % 16 : Nat) : Int)) rfl (by kernel_rfl) (by kernel_rfl) (by kernel_rfl) (fun _ _ _ h => h) (Or.inl ⟨by rfl, ?_⟩) ?_
      · intro w; go_simp
      (try simp only [Act.put]); refine wpAny_take (i := 6) (v := .int .u8 ((dgH (c.toNat % 16)).toNat : Int)) rfl (by kernel_rfl) (by kernel_rfl) (by kernel_rfl) (fun _ _ _ h => h) (Or.inl ⟨by rfl, ?_⟩) ?_
      · intro w; go_simp
      (try simp only [Act.put]); refine wpAny_ready (rs := [7]) (by kernel_rfl) (by simp) ?_; refine AllReady.cons (o := _) rfl (fun K hK => ?_) ?_
      · go_simp; refine hK _ _ ?_; clear hK K; (try simp only [sq]); have kD : Keep [] wr (wr.drew.alloc (.cells #[.int .u8 ((dgH (c.toNat / 16)).toNat : Int), .int .u8 ((dgH (c.toNat % 16)).toNat : Int)] 5)) := ((Keep.refl [] wr).drew).alloc _; have HD := Lib.hid kD; have HOD := Lib.hid (HOw.out.keep0 kD); have hsd : (World.drew wr).heap.size = wr.heap.size := rfl
        have hM : ∀ j u, (rows byteC [dgH (c.toNat / 16), dgH (c.toNat % 16)])[j]? = some u → (wr.drew.alloc (.cells #[.int .u8 ((dgH (c.toNat / 16)).toNat : Int), .int .u8 ((dgH (c.toNat % 16)).toNat : Int)] 5)).cell? ((⟨wr.heap.size, 0, none⟩ : Addr).add j) = some u := by
          intro j u hj; have hA : Blk (wr.drew.alloc (.cells #[.int .u8 ((dgH (c.toNat / 16)).toNat : Int), .int .u8 ((dgH (c.toNat % 16)).toNat : Int)] 5)) wr.drew.heap.size 5 [.int .u8 ((dgH (c.toNat / 16)).toNat : Int), .int .u8 ((dgH (c.toNat % 16)).toNat : Int)] := Blk.newA wr.drew #[.int .u8 ((dgH (c.toNat / 16)).toNat : Int), .int .u8 ((dgH (c.toNat % 16)).toNat : Int)] _; have e1 : rows byteC [dgH (c.toNat / 16), dgH (c.toNat % 16)] = [.int .u8 ((dgH (c.toNat / 16)).toNat : Int), .int .u8 ((dgH (c.toNat % 16)).toNat : Int)] := by simp [rows, byteC]
          rw [e1] at hj; have e2 : (⟨wr.heap.size, 0, none⟩ : Addr).add j = ⟨wr.drew.heap.size, j, none⟩ := by rw [hsd]; unfold Addr.add; split <;> simp_all
          rw [e2, hA.cell j]; exact hj
        have HMc := Lib.hid hM; have hll := hexS_len (l.take k); rw [List.length_take, Nat.min_eq_left hk] at hll; have HLL := Lib.hid hll
        have HCK := Lib.hid (fun (w3 : World) (v3 : Value) (hg3 : (wr.drew.alloc (.cells #[.int .u8 ((dgH (c.toNat / 16)).toNat : Int), .int .u8 ((dgH (c.toNat % 16)).toNat : Int)] 5)).grownBy w3 u3.ownBlock) (ha3 : v3.ownBlock = u3.ownBlock ∨ v3.ownBlock = some (wr.drew.alloc (.cells #[.int .u8 ((dgH (c.toNat / 16)).toNat : Int), .int .u8 ((dgH (c.toNat % 16)).toNat : Int)] 5)).heap.size) =>
          show Keep [] w w3 ∧ (∀ (k : Nat) (c : UInt8), l[k]? = some c → w3.cell? ⟨w1.heap.size, k, none⟩ = some (.int .u8 c.toNat)) ∧ (∀ g, v3.ownBlock = some g → g ≠ w1.heap.size) ∧ w1.heap.size < w3.heap.size from
          have h0 := HC.out.2.2; have h1 := HD.out.size; have h2 := hg3.size
          ⟨(HK.out.trans HD.out).grown hg3 (fun q hq hlt => by have := (HOw.out.lt q hq).1; omega),
            fun k c h => by
              have e1 := hg3.block w1.heap.size (by omega) (fun e => HC.out.2.1 _ e.symm rfl); have e2 := HD.out.block w1.heap.size h0 (by simp); have e3 := HC.out.1 k c h; unfold World.cell? at e3 ⊢; dsimp only at e3 ⊢; rw [e1, e2]; exact e3,
            fun g hg => by
              rcases ha3 with e | e
              · rw [e] at hg; exact HC.out.2.1 g hg
              · rw [e] at hg; have : (wr.drew.alloc (.cells #[.int .u8 ((dgH (c.toNat / 16)).toNat : Int), .int .u8 ((dgH (c.toNat % 16)).toNat : Int)] 5)).heap.size = g := by simpa using hg
                omega,
            by omega⟩)
        have HSN := Lib.hid (hexS_snoc (l.take k) c); have HTK := Lib.hid (take_snoc HCc.out); clear kD hM hll; refine wpAny_ready (rs := [8]) (by kernel_rfl) (by simp) ?_; refine AllReady.cons (o := _) rfl (fun K hK => ?_) ?_
        · refine step_appendQ rfl (.tmp 17) (.tmp 24) 126 rfl i0 (.int .u8 0) 1 Tryz.underlying126 HI rfl (by decide) byteC_length byteC_one (base := w.heap.size) (Nat.le_trans HK.out.size HD.out.size) (by rfl) HOD.out ⟨wr.heap.size, 0, none⟩ 2 (M := [dgH (c.toNat / 16), dgH (c.toNat % 16)]) (by rfl) HMc.out (by have := HLL.out; simp; unfold maxLen; omega) (by have := HLL.out; simp; omega) ?_; intro v3 w3 hown3 hg3 ha3; have hx3 := HCK.out w3 v3 hg3 ha3; have HO3 := Lib.hid (show Own byteC 1 w.heap.size 5 w3 v3 (hexS (l.take (k + 1))) by rw [HTK.out, HSN.out]; exact hown3); have HK3 := Lib.hid hx3.1; have HC3 := Lib.hid hx3.2; clear hown3 hg3 ha3 hx3; refine hK _ _ ?_; clear hK K; (try simp only [Act.put, sqA]); refine wpAny_take (i := 9) (v := ?_) rfl (by kernel_rfl) (by kernel_rfl) (by kernel_rfl) (fun _ _ _ h => h) (Or.inl ⟨by rfl, ?_⟩) ?_; rotate_left
          · (intro w; go_simp) <;> (with_reducible rfl)
          (try simp only [Act.put]); refine wpAny_done (by kernel_rfl) ?_ _; go_wp2_with fail
          go_roundg (l.length - (k + 1))
          case measure => omega
          case rel => exact ⟨k + 1, by go_num, by omega, rfl, HO3, HK3, HC3⟩
        · exact AllReady.nil
      · exact AllReady.nil
    · have hke : l.take k = l := List.take_of_length_le (by omega); have ho := HOw.out; rw [hke] at ho; have hback := own_back (P := Tryz.prog) ho 126 9 Tryz.underlying126 Tryz.underlying5 Tryz.underlying9; clear hke ho; go_wp2_with fail; go_ret; exact ⟨rfl, HK.out⟩
def smO (b : UInt8) : Bool := decide (48 ≤ b.toNat ∧ b.toNat ≤ 57) || decide (97 ≤ b.toNat ∧ b.toNat ≤ 102)
def smV (b : UInt8) : Nat := if 48 ≤ b.toNat ∧ b.toNat ≤ 57 then b.toNat - 48 else if 97 ≤ b.toNat ∧ b.toNat ≤ 102 then b.toNat - 87 else 0
def unhexM : List UInt8 → Option (List UInt8)
  | [] => some []
  | [_] => none
  | a :: b :: r => if smO a && smO b then (unhexM r).map (fun o => UInt8.ofNat (16 * smV a + smV b) :: o) else none
theorem smV_lt (b : UInt8) : smV b < 16 := by unfold smV; split; (omega); split <;> omega
theorem all_u8 {p : UInt8 → Prop} (h : ∀ n : Fin 256, p (UInt8.ofNat n.1)) (b : UInt8) : p b := by
  have := h ⟨b.toNat, b.toNat_lt⟩; simpa using this
theorem dg_sm (b : UInt8) : smO b = true → dgH (smV b) = b := by
  have key : ∀ n : Fin 256, smO (UInt8.ofNat n.1) = true → dgH (smV (UInt8.ofNat n.1)) = UInt8.ofNat n.1 := by decide +kernel
  exact all_u8 (p := fun b => smO b = true → dgH (smV b) = b) key b
theorem ofNat_two {a b : Nat} (ha : a < 16) (hb : b < 16) : (UInt8.ofNat (16 * a + b)).toNat = 16 * a + b := by
  rw [UInt8.toNat_ofNat']; omega
theorem hex_unhex : ∀ (s o : List UInt8), unhexM s = some o → hexS o = s
  | [], o, h => by
    have : o = [] := by simpa [unhexM] using h.symm
    rw [this]; rfl
  | [_], o, h => by simp [unhexM] at h
  | a :: b :: r, o, h => by
    unfold unhexM at h
    split at h
    · rename_i hab; simp only [Bool.and_eq_true] at hab
      cases hr : unhexM r with
      | none => rw [hr] at h; cases h
      | some q =>
        rw [hr] at h; have hq := hex_unhex r q hr; have : o = UInt8.ofNat (16 * smV a + smV b) :: q := by simpa using h.symm
        rw [this]; have e : hexS (UInt8.ofNat (16 * smV a + smV b) :: q) = dgH ((UInt8.ofNat (16 * smV a + smV b)).toNat / 16) :: dgH ((UInt8.ofNat (16 * smV a + smV b)).toNat % 16) :: hexS q := rfl; have ha := smV_lt a; have hb := smV_lt b; rw [e, ofNat_two ha hb, hq, show (16 * smV a + smV b) / 16 = smV a by omega, show (16 * smV a + smV b) % 16 = smV b by omega, dg_sm a hab.1, dg_sm b hab.2]
    · cases h
theorem unhex_len : ∀ (s o : List UInt8), unhexM s = some o → s.length = 2 * o.length := fun s o h => by
  rw [← hex_unhex s o h, hexS_len]
theorem unhex_odd : ∀ s : List UInt8, s.length % 2 ≠ 0 → unhexM s = none := fun s h => by
  cases hu : unhexM s with
  | none => rfl
  | some o => have := unhex_len s o hu; omega
theorem or16 {a b : Nat} (ha : a < 16) (hb : b < 16) : bits BinOp.or IntKind.i64 ((a : Int) * 16) (b : Int) = (16 * a + b : Nat) := by
  have key : ∀ a b : Fin 16, bits BinOp.or IntKind.i64 (((a.1 : Nat) : Int) * 16) ((b.1 : Nat) : Int) = ((16 * a.1 + b.1 : Nat) : Int) := by decide +kernel
  exact key ⟨a, ha⟩ ⟨b, hb⟩
theorem hexa_small (b : UInt8) (w : World) :
    Calls Tryz.prog 201 #[.int .u8 b.toNat] w fun e w' => e = .returned (.tuple #[.int .i64 (smV b : Nat), .bool (smO b)]) ∧ w = w' := by
  have hb := u8_nat b; have hV : smV b = if 48 ≤ b.toNat ∧ b.toNat ≤ 57 then b.toNat - 48 else if 97 ≤ b.toNat ∧ b.toNat ≤ 102 then b.toNat - 87 else 0 := rfl
  have hO : smO b = (decide (48 ≤ b.toNat ∧ b.toNat ≤ 57) || decide (97 ≤ b.toNat ∧ b.toNat ≤ 102)) := rfl; have HV := Lib.hid (And.intro hV hO); clear hV hO; by_cases c1 : 48 ≤ b.toNat ∧ b.toNat ≤ 57
  · have HF := Lib.hid (show ((smV b : Nat) : Int) = (b.toNat : Int) - 48 ∧ smO b = true from ⟨by rw [HV.out.1, if_pos c1]; omega, by rw [HV.out.2]; simp [c1]⟩); obtain ⟨a1, a2⟩ := c1; go_enter Tryz.func201, Tryz.ntmps201; go_wp2_with fail
    all_goals
      go_ret2; exact ⟨by rw [HF.out.1, HF.out.2]; rfl, rfl⟩
  by_cases c2 : 97 ≤ b.toNat ∧ b.toNat ≤ 102
  · have HF := Lib.hid (show ((smV b : Nat) : Int) = (b.toNat : Int) - 97 + 10 ∧ smO b = true from ⟨by rw [HV.out.1, if_neg c1, if_pos c2]; omega, by rw [HV.out.2]; simp [c2]⟩); obtain ⟨a1, a2⟩ := c2; have n1 : ¬ b.toNat ≤ 57 := by omega
    have n2 : 48 ≤ b.toNat := by omega
    clear c1; go_enter Tryz.func201, Tryz.ntmps201; go_wp2_with fail
    all_goals
      go_ret2; exact ⟨by rw [HF.out.1, HF.out.2]; rfl, rfl⟩
  · have HF := Lib.hid (show ((smV b : Nat) : Int) = 0 ∧ smO b = false from ⟨by rw [HV.out.1, if_neg c1, if_neg c2]; rfl, by rw [HV.out.2, decide_eq_false c1, decide_eq_false c2]; rfl⟩); by_cases d1 : 48 ≤ b.toNat
    · have d2 : ¬ b.toNat ≤ 57 := fun h => c1 ⟨d1, h⟩
      by_cases d3 : 97 ≤ b.toNat
      · have d4 : ¬ b.toNat ≤ 102 := fun h => c2 ⟨d3, h⟩
        clear c1 c2; go_enter Tryz.func201, Tryz.ntmps201; go_wp2_with fail
        all_goals
          go_ret2; exact ⟨by rw [HF.out.1, HF.out.2]; rfl, rfl⟩
      · clear c1 c2; go_enter Tryz.func201, Tryz.ntmps201; go_wp2_with fail
        all_goals
          go_ret2; exact ⟨by rw [HF.out.1, HF.out.2]; rfl, rfl⟩
    · have d3 : ¬ 97 ≤ b.toNat := by omega
      clear c1 c2; go_enter Tryz.func201, Tryz.ntmps201; go_wp2_with fail
      all_goals
        go_ret2; exact ⟨by rw [HF.out.1, HF.out.2]; rfl, rfl⟩
theorem nat_mod2 (m : Nat) : (m : Int).tmod 2 = ((m % 2 : Nat) : Int) ∧ (m : Int) % 2 = ((m % 2 : Nat) : Int) := ⟨by rw [Int.tmod_eq_emod_of_nonneg (by omega)]; omega, by omega⟩
theorem nat_div2 (m : Nat) : (m : Int).tdiv 2 = ((m / 2 : Nat) : Int) ∧ (m : Int) / 2 = ((m / 2 : Nat) : Int) := ⟨by rw [Int.tdiv_eq_ediv_of_nonneg (by omega)]; omega, by omega⟩
def unhexOut (o : Option (List UInt8)) : Ending := .returned (.tuple #[.string (S (o.getD [])), .int .i64 (if o.isSome then 0 else 3)])
theorem drop_two {s : List UInt8} {m : Nat} {a b : UInt8} (ha : s[m]? = some a) (hb : s[m + 1]? = some b) : s.drop m = a :: b :: s.drop (m + 2) := by
  obtain ⟨h1, h2⟩ := List.getElem?_eq_some_iff.1 ha; obtain ⟨h3, h4⟩ := List.getElem?_eq_some_iff.1 hb; rw [List.drop_eq_getElem_cons h1, List.drop_eq_getElem_cons h3, h2, h4]
theorem hexa_Unhex (s : List UInt8) (w : World) (hs : s.length ≤ 1048576) :
    Calls Tryz.prog 171 #[.string (S s)] w fun e w' => e = unhexOut (unhexM s) ∧ Keep [] w w' := by
  have hsz := S_size s; obtain ⟨i0, hi, hz0, hz1, hz2⟩ := info_parts u8info; have HI := Lib.hid (And.intro hi (And.intro hz0 (And.intro hz1 hz2))); obtain ⟨m1, m2⟩ := nat_mod2 s.length; obtain ⟨d1, d2⟩ := nat_div2 s.length; by_cases hodd : s.length % 2 = 0
  · rw [hodd] at m1 m2; obtain ⟨hf, hhf⟩ : ∃ h, s.length / 2 = h := ⟨_, rfl⟩
    rw [hhf] at d1 d2; have hle : hf ≤ 1048576 := by omega
    have HODD := Lib.hid hodd; have HM := Lib.hid (show ∀ w' : World, w'.ownsRow w.heap.size 5 1 (.slice (some ⟨w.heap.size, 0, none⟩) 0 hf) 0 [] → w.grownBy w' none → Own byteC 1 w.heap.size 5 w' (.slice (some ⟨w.heap.size, 0, none⟩) 0 hf) [] ∧ Keep [] w w' from fun w' h1 h2 => ⟨h1, (Keep.refl [] w).grown h2 (fun k hk => by cases hk)⟩); clear hodd hhf; go_enter Tryz.func171, Tryz.ntmps171
    go_wp2_with (first
      | (with_reducible (show wpList _ _ _ ((⟨_, .makeSlice _ _ _, _, _, _, none⟩ : Oper) :: _) _ _)
         refine wpList_make_own _ rfl _ _ 126 rfl w.heap.size 5 i0 _ 1 Tryz.underlying126 hi hz0 hz1 .i64 .i64 _ hf rfl rfl (by omega) (by rw [hz2]; omega) (by unfold maxLen; omega) (Nat.le_refl _) ?_; intro w1 hr1 hg1; have HO := Lib.hid (HM.out w1 hr1 hg1); clear hr1 hg1; try simp only [sq])
      | fail)
    clear hi hz0 hz1 hz2 m1 m2 d1 d2
    go_loopg [4, 5] s.length (fun g v i wr => ∃ (m : Nat) (acc : List UInt8), i = .int .i64 (m : Nat) ∧ m ≤ s.length ∧ g = s.length - m ∧ Hid (m = 2 * acc.length) ∧ Hid (unhexM s = (unhexM (s.drop m)).map (acc ++ ·)) ∧ Hid (Own byteC 1 w.heap.size 5 wr v acc) ∧ Hid (Keep [] w wr))
    case atStart => exact ⟨0, [], rfl, Nat.zero_le _, rfl, Lib.hid rfl, Lib.hid (by cases h : unhexM s <;> simp [h]), Lib.hid HO.out.1, Lib.hid HO.out.2⟩
    case round =>
      obtain ⟨m, acc, rfl, hm, hg, HM2, HU, HOw, HK⟩ := hrel; by_cases hlt : m < s.length
      · have hm2 := HM2.out; have hod := HODD.out; have hlt2 : m + 1 < s.length := by omega
        obtain ⟨a, ha⟩ : ∃ a, s[m]? = some a := ⟨_, List.getElem?_eq_getElem hlt⟩
        obtain ⟨b, hb⟩ : ∃ b, s[m + 1]? = some b := ⟨_, List.getElem?_eq_getElem hlt2⟩
        have hga := S_get ha; have hgb := S_get hb; have HA := Lib.hid (fun w' => hexa_small a w'); have HB := Lib.hid (fun w' => hexa_small b w'); have HD := Lib.hid (drop_two ha hb); have hva := smV_lt a; have hvb := smV_lt b; have wk := IntWalk.i64_in ((m : Int) + 2) (by omega); have wk1 := IntWalk.i64_in ((m : Int) + 1) (by omega); have n1 : ((m : Int) + 1).toNat = m + 1 := by omega
        have i1 : (0 : Int) ≤ (m : Int) + 1 := by omega
        have i2 : (m : Int) + 1 < (s.length : Int) := by omega
        have HUn := Lib.hid (show unhexM (a :: b :: s.drop (m + 2)) = if smO a && smO b then (unhexM (s.drop (m + 2))).map (fun o => UInt8.ofNat (16 * smV a + smV b) :: o) else none from by rw [unhexM]); have HZ := Lib.hid (ofNat_two hva hvb); have ho := or16 hva hvb; generalize smV a = va at *; generalize smV b = vb at *; clear ha hb hm2 hod
        cases hoa : smO a with
        | false =>
          rw [hoa] at HA HUn; have HR := Lib.hid (show unhexM s = none by rw [HU.out, HD.out, HUn.out]; rfl); go_wp2_with fail; refine (HA.out _).mono ?_; rintro e w5 ⟨rfl, rfl⟩; go_wp2_with fail; refine (HB.out _).mono ?_; rintro e w6 ⟨rfl, rfl⟩; go_wp2_with fail; go_ret2; exact ⟨by rw [HR.out]; rfl, HK.out⟩
        | true =>
          cases hob : smO b with
          | false =>
            rw [hoa] at HA HUn; rw [hob] at HB HUn; have HR := Lib.hid (show unhexM s = none by rw [HU.out, HD.out, HUn.out]; rfl); go_wp2_with fail; refine (HA.out _).mono ?_; rintro e w5 ⟨rfl, rfl⟩; go_wp2_with fail; refine (HB.out _).mono ?_; rintro e w6 ⟨rfl, rfl⟩; go_wp2_with fail; go_ret2; exact ⟨by rw [HR.out]; rfl, HK.out⟩
          | true =>
            rw [hoa] at HA HUn; rw [hob] at HB HUn
            have HR := Lib.hid (show unhexM s = (unhexM (s.drop (m + 2))).map ((acc ++ [UInt8.ofNat (16 * va + vb)]) ++ ·) by
              rw [HU.out, HD.out, HUn.out]; cases h : unhexM (s.drop (m + 2)) <;> simp)
            go_wp2_with fail; refine (HA.out _).mono ?_; rintro e w5 ⟨rfl, rfl⟩; go_wp2_with fail; refine (HB.out _).mono ?_; rintro e w6 ⟨rfl, rfl⟩; have hlen : acc.length + 1 ≤ 1048576 := by have := HM2.out; omega
            go_wp2_with (first
              | (at_builtin
                 go_must (refine wpList_append1 rfl _ _ 126 rfl i0 (.int .u8 0) 1 Tryz.underlying126 HI rfl (by decide) byteC_length byteC_one w wr rfl HK.out (by rfl) HOw.out (UInt8.ofNat (16 * va + vb)) _ (by simp only [byteC, HZ.out]; push_cast; rfl) _ rfl (by unfold maxLen; omega) (by omega) ?_); intro v' w7 hown' hk' hg')
              | fail)
            go_roundg (s.length - (m + 2))
            case measure => omega
            case rel => exact ⟨m + 2, _, by go_num, by omega, rfl, Lib.hid (by have := HM2.out; simp; omega), HR, Lib.hid hown', Lib.hid hk'⟩
      · have hme : s.drop m = [] := List.drop_eq_nil_of_le (by omega); have HR := Lib.hid (show unhexM s = some acc by rw [HU.out, hme]; simp [unhexM]); have hback := own_back (P := Tryz.prog) HOw.out 126 9 Tryz.underlying126 Tryz.underlying5 Tryz.underlying9; clear hme; go_wp2_with fail; go_ret2; exact ⟨by rw [HR.out]; rfl, HK.out⟩
  · have h1 : s.length % 2 = 1 := by omega
    have HR := Lib.hid (unhex_odd s hodd); rw [h1] at m1 m2; clear hodd hi hz0 hz1 hz2 d1 d2 h1; go_enter Tryz.func171, Tryz.ntmps171; go_wp2_with fail; go_ret2; exact ⟨by rw [HR.out]; rfl, Keep.refl _ _⟩
end Go.Proofs.YtkghgaopcgcheaaGreatDoor
namespace Go.Proofs.YtkghgaopcgcheaaGreatDoor
open Go.RowKit
structure LnR where
  t : List UInt8
  e : Int
  r : List UInt8
def crlfC : List UInt8 := [13, 10]
def lnC (l : List UInt8) : LnR :=
  if Lib.indexByte (l.take 256) 10 < 0 then (if 256 ≤ l.length then ⟨[], 3, l⟩ else ⟨[], 17, l⟩)
  else if Lib.hasSuffix (l.take ((Lib.indexByte (l.take 256) 10).toNat + 1)) crlfC then ⟨Lib.trimSuffix (l.take ((Lib.indexByte (l.take 256) 10).toNat + 1)) crlfC, 0, l.drop ((Lib.indexByte (l.take 256) 10).toNat + 1)⟩ else ⟨[], 3, l⟩
def nxt (s : List UInt8) (a : Nat) : Nat := if (lnC (s.drop a)).e = 0 then s.length - (lnC (s.drop a)).r.length else 0
end Go.Proofs.YtkghgaopcgcheaaGreatDoor
namespace Go.Proofs.YtkghgaopcgcheaaGreatDoor
open Go.RowKit Go.Shelf
theorem Blk.there' {w : World} {b : Nat} {T : TypeId} {xs : List Value} (h : Blk w b T xs) (o n : Nat) (hl : o + n ≤ xs.length) : w.there b o n := fun j hj =>
  ⟨by rw [h.cell, List.getElem?_eq_getElem (by omega)]; rfl, h.frozen _⟩
theorem Blk.range' {w : World} {b : Nat} {T : TypeId} {xs : List Value} (h : Blk w b T xs) : w.rangeAt b 0 xs := fun j v hv => by rw [Nat.zero_add]; exact h.get hv
theorem Keep.setCells' {S : List Nat} {a : World} (b : Nat) (hb : b < a.heap.size → b ∈ S) : ∀ (vs : List Value) (o : Nat) (w : World), Keep S a w → Keep S a (w.setCells b o vs)
  | [], _, _, h => h
  | v :: r, o, w, h => by
    rw [World.setCells]; exact Keep.setCells' b hb r (o + 1) _ (h.setCell _ _ hb)
end Go.Proofs.YtkghgaopcgcheaaGreatDoor
