/- Parts of the proof of StockReplays, in order. No conditions but those that each theorem states. -/
import Derived.Test.YtkghgaopcgcheaaGreatDoorYStockReplays0
import Derived.RangeFuncBound
import Derived.Shelf.Abstract
import Derived.Shelf.RegionOpen
import Derived.WalkKit
import Derived.OwnWalkIn
import Derived.TacticsInMore
import Derived.LoopNIn
import Derived.LoopIn
import Derived.Deep.RegionHeld3
import Derived.Deep.Cut
import Derived.Deep.DeepCutAuto
import Derived.Deep.LoopGhost
import Derived.Test.YtkghgaopcgcheaaGreatDoorYStockReplays15
set_option maxRecDepth 100000
set_option maxHeartbeats 16000000
set_option linter.unusedSimpArgs false
set_option linter.unusedVariables false
namespace Go.Proofs.YtkghgaopcgcheaaGreatDoor
open Go.RowKit Go.Shelf
attribute [local go_sem] Oper.semAt_some
theorem keepPut {S : List Nat} {w W : World} (h : Keep S w W) {l : Nat} (hl : w.heap.size ≤ l) (o : Obj) : Keep S w (W.putObj l o) :=
  ⟨h.os, h.tape, h.output, by simpa [World.putObj] using h.size, fun k hk hn => (World.putObj_heap_other (by omega)).trans (h.block k hk hn)⟩
theorem keepHeap {w W : World} (h : Keep [] w W) {k : Nat} {o : Obj} (hk : w.heap[k]? = some o) : W.heap[k]? = some o :=
  (h.block k (Array.getElem?_eq_some_iff.1 hk).1 (by simp)).trans hk
theorem keepOthers {w W : World} (h : Keep [] w W) : KeepsOthers w W := ⟨h.size, fun _ _ hk _ => keepHeap h hk⟩
theorem boxAt {W W' : World} {B : Nat} {t : TypeId} {v : Value} (h : Boxed W B t v) (k : Keep [] W W') : Boxed W' B t v := keepHeap k h
theorem boxPut {W : World} {B l : Nat} {t : TypeId} {v : Value} (h : Boxed W B t v) (hl : B ≠ l) (o : Obj) : Boxed (W.putObj l o) B t v := (World.putObj_heap_other hl).trans h
structure SpS (w : World) (rec : Loop) (r : List UInt8) (W : World) : Prop where
  kp : Keep [] w W
  rb : Boxed W w.heap.size 4 (.bool false)
  bs : Boxed W (w.heap.size + 1) 9 (.string (S r))
  bp : Boxed W (w.heap.size + 2) 9 (.string ⟨#[47]⟩)
  bv : Boxed W (w.heap.size + 3) 3 (.int .i64 0)
  dd : W.heap[w.heap.size + 4]? = some (.deferred (some []))
  ll : W.heap[w.heap.size + 5]? = some (.loop rec)
theorem SpS.keep0 {w W W' : World} {rec : Loop} {r : List UInt8} (h : SpS w rec r W) (k : Keep [] W W') : SpS w rec r W' :=
  ⟨h.kp.trans k, boxAt h.rb k, boxAt h.bs k, boxAt h.bp k, boxAt h.bv k, keepHeap k h.dd, keepHeap k h.ll⟩
theorem SpS.put {w W : World} {rec rec' : Loop} {r : List UInt8} (h : SpS w rec r W) : SpS w rec' r (W.putObj (w.heap.size + 5) (.loop rec')) :=
  ⟨keepPut h.kp (by omega) _, boxPut h.rb (by omega) _, boxPut h.bs (by omega) _, boxPut h.bp (by omega) _, boxPut h.bv (by omega) _, (World.putObj_heap_other (by omega)).trans h.dd, World.putObj_heap_same (Array.getElem?_eq_some_iff.1 h.ll).1⟩
theorem SpS.next {w W : World} {rec : Loop} {r : List UInt8} (h : SpS w rec r W) (r' : List UInt8) : SpS w rec r' (W.setCell ⟨w.heap.size + 1, 0, none⟩ (.string (S r'))) :=
  ⟨h.kp.trans' ((Keep.refl [w.heap.size + 1] W).setCell _ _ (by simp)) (fun x hx hlt => by have h1 : x = w.heap.size + 1 := (by simpa using hx); omega),
    h.rb.other (by omega) _, h.bs.set _, h.bp.other (by omega) _, h.bv.other (by omega) _, (KeepsOthers.setCell W _ _).same _ _ h.dd rfl, (KeepsOthers.setCell W _ _).same _ _ h.ll rfl⟩
def spLeft (b : Nat) (W : World) : Nat := match W.cell? ⟨b, 0, none⟩ with
  | some (.string s) => s.size
  | _ => 0
theorem spLeft_eq {w W : World} {rec : Loop} {r : List UInt8} (h : SpS w rec r W) : spLeft (w.heap.size + 1) W = r.length := by
  unfold spLeft; rw [h.bs.cell]; exact S_size r
theorem slash_end {k : Nat} {r : List UInt8} (h : Lib.indexByte r 47 = -1) : slashF k r = [r] := by
  cases k with
  | zero => rfl
  | succ k => show (if _ then _ else _) = _; rw [if_pos h]
theorem slash_more {k : Nat} {r : List UInt8} {i : Nat} (h : Lib.indexByte r 47 = (i : Nat)) (hk : r.length ≤ k) : slashF k r = r.take i :: slashF (k - 1) (r.drop (i + 1)) ∧ i < r.length := by
  have hlt : i < r.length := by
    have := (Lib.indexByte_some h).1; exact (List.getElem?_eq_some_iff.1 this).1
  cases k with
  | zero => omega
  | succ k =>
    refine ⟨?_, hlt⟩; show (if _ then _ else _) = _; rw [if_neg (by rw [h]; omega), h]; simp
theorem split_iter {w : World} {rec : Loop} {Rx : World → Prop} {n : Nat} (s : List UInt8) (hs : s.length ≤ 128)
    (hY : ∀ r x W, x.length ≤ 128 → SpS w rec r W → YieldAt Fence.wide n Tryz.prog (w.heap.size + 5) #[.string (S x)] W fun e W' => (e = .returned (.bool true) ∧ isPartM x = true ∧ SpS w rec r W') ∨ (e = .returned (.bool false) ∧ isPartM x = false ∧ Rx W'))
    (W : World) (h : SpS w rec s W) :
    CallsIn Fence.wide (n + 1) Tryz.prog 213 #[.func (.yield (w.heap.size + 5)) #[] #[], .pointer (some ⟨w.heap.size + 2, 0, none⟩), .pointer (some ⟨w.heap.size + 1, 0, none⟩), .pointer (some ⟨w.heap.size + 3, 0, none⟩)] W fun e W2 =>
      (∃ v, e = .returned v) ∧ (((slashF s.length s).all isPartM = true ∧ ∃ r, SpS w rec r W2) ∨ ((slashF s.length s).all isPartM = false ∧ Rx W2)) := by
  have h0 := h.bp.cell; refine callsIn_of_wp Tryz.func213 rfl trivial ?_ rfl; simp only [Tryz.ntmps213, List.size_toArray, List.length_cons, List.length_nil, Nat.reduceAdd, Nat.reduceSub, Array.replicate_succ, Array.replicate_zero, List.push_toArray, List.append_toArray, List.nil_append, List.cons_append]; have h1 := h.bs.cell; have H := Lib.hid h; clear h; gi_wp2
  gi_loopw [7] (fun iv wr => ∃ (k : Nat) (r : List UInt8), r.length ≤ k ∧ r.length ≤ 128 ∧ Hid ((slashF s.length s).all isPartM = (slashF k r).all isPartM) ∧ Hid (SpS w rec r wr))
    (fun iv wr => spLeft (w.heap.size + 1) wr)
  case atStart => exact ⟨s.length, s, Nat.le_refl _, hs, Lib.hid rfl, H⟩
  case round =>
    obtain ⟨k, r, hk, hr, HE, HS⟩ := hrel; have sR := S_size r; have c1 := HS.out.bs.cell; have c2 := HS.out.bp.cell; have c3 := HS.out.bv.cell; have hI := fun w' => Tryz.strings_Index_one (S r) 47 w'
    rw [S_list] at hI; have hge := Lib.indexByte_ge r 47; by_cases hi : Lib.indexByte r 47 = -1
    · rw [hi] at hI; have HI := Lib.hid hI; have HE2 := Lib.hid (show (slashF s.length s).all isPartM = isPartM r by rw [HE.out, slash_end hi]; simp); obtain ⟨fn, tmps, assign, body, hy, hR⟩ := hY r r wr hr HS.out; have HR := Lib.hid hR; clear hI hi hge hR hY
      gi_wp2_with (refine ⟨trivial, ?_⟩; gi_at_call 215; refine (callsIn_wide.2 (HI.out _)).mono ?_; rintro e w' ⟨rfl, rfl⟩)
      refine HR.out.mono ?_; rintro e W3 (⟨rfl, hp, hs3⟩ | ⟨rfl, hp, hx3⟩)
      · gi_wp2; go_end0; exact ⟨⟨_, rfl⟩, .inl ⟨by rw [HE2.out, hp], r, hs3⟩⟩
      · gi_wp2; go_end0; exact ⟨⟨_, rfl⟩, .inr ⟨by rw [HE2.out, hp], hx3⟩⟩
    · obtain ⟨i, hii⟩ : ∃ i : Nat, Lib.indexByte r 47 = i := ⟨(Lib.indexByte r 47).toNat, by omega⟩
      rw [hii] at hI; have HI := Lib.hid hI; obtain ⟨hsl, hlt⟩ := slash_more hii hk; have HE2 := Lib.hid (show (slashF s.length s).all isPartM = (isPartM (r.take i) && (slashF (k - 1) (r.drop (i + 1))).all isPartM) by rw [HE.out, hsl]; rfl); obtain ⟨fn, tmps, assign, body, hy, hR⟩ := hY r (r.take i) wr (by rw [List.length_take]; omega) HS.out; have HR := Lib.hid hR; have i0 : (0 : Int) ≤ (i : Int) := by omega
      have i1 : (i : Int) ≤ (r.length : Int) := by omega
      have wi := IntWalk.i64_in (i : Int) (by omega); have x1 : (S r).extract 0 i = S (r.take i) := by rw [S_extract]; simp
      have i2 : (0 : Int) ≤ (i : Int) + 1 := by omega
      have i3 : (i : Int) + 1 ≤ (r.length : Int) := by omega
      have wi2 := IntWalk.i64_in ((i : Int) + 1) (by omega); have x2 : (S r).extract (i + 1) r.length = S (r.drop (i + 1)) := by rw [S_extract, List.take_length]
      have n1 : ((i : Int) + 1).toNat = i + 1 := by omega
      clear hI hi hii hge hR hY hsl
      gi_wp2_with (refine ⟨trivial, ?_⟩; gi_at_call 215; refine (callsIn_wide.2 (HI.out _)).mono ?_; rintro e w' ⟨rfl, rfl⟩)
      refine HR.out.mono ?_; rintro e W3 (⟨rfl, hp, hs3⟩ | ⟨rfl, hp, hx3⟩)
      · have c1 := hs3.bs.cell; have f1 := hs3.bs.frozen; have c2 := hs3.bp.cell; have HS3 := Lib.hid hs3; have HP := Lib.hid hp; clear hs3 hp; gi_wp2
        go_roundw
        case rel => exact ⟨k - 1, r.drop (i + 1), by rw [List.length_drop]; omega, by rw [List.length_drop]; omega, Lib.hid (by rw [HE2.out, HP.out]; rfl), Lib.hid (HS3.out.next _)⟩
        case measure => rw [spLeft_eq (HS3.out.next _), spLeft_eq HS.out, List.length_drop]; omega
      · gi_wp2; refine bodyPost_ret (results_none rfl _ _ _) rfl ?_; exact ⟨⟨_, rfl⟩, .inr ⟨by rw [HE2.out, hp]; rfl, hx3⟩⟩
theorem splitSeq_made (s : List UInt8) (w : World) : Calls Tryz.prog 185 #[.string (S s), .string ⟨#[47]⟩, .int .i64 0] w fun e w' =>
    e = .returned (.func (.func 213) #[] #[.pointer (some ⟨w.heap.size + 1, 0, none⟩), .pointer (some ⟨w.heap.size, 0, none⟩), .pointer (some ⟨w.heap.size + 2, 0, none⟩)]) ∧
      w' = ((w.alloc (.cells #[.string (S s)] 9)).alloc (.cells #[.string ⟨#[47]⟩] 9)).alloc (.cells #[.int .i64 0] 3) := by
  go_enter Tryz.func185, Tryz.ntmps185; go_wp2_with fail; go_ret; exact ⟨rfl, rfl⟩
theorem SplitSeq_made (s : List UInt8) (w : World) : Calls Tryz.prog 151 #[.string (S s), .string ⟨#[47]⟩] w fun e w' =>
    e = .returned (.func (.func 213) #[] #[.pointer (some ⟨w.heap.size + 1, 0, none⟩), .pointer (some ⟨w.heap.size, 0, none⟩), .pointer (some ⟨w.heap.size + 2, 0, none⟩)]) ∧
      w' = ((w.alloc (.cells #[.string (S s)] 9)).alloc (.cells #[.string ⟨#[47]⟩] 9)).alloc (.cells #[.int .i64 0] 3) := by
  have H := Lib.hid (splitSeq_made s w); go_enter Tryz.func151, Tryz.ntmps151; go_wp2_with fail; refine H.out.mono ?_; rintro e w1 ⟨rfl, rfl⟩; go_wp2_with fail; go_ret; exact ⟨rfl, rfl⟩
structure SpX (w w2 : World) (a : Act) (ps : Array Tmp) (assign body : Code) (fn : FuncId) (W : World) : Prop where
  kp : Keep [] w W
  rb : Boxed W w.heap.size 4 (.bool false)
  dd : W.heap[w.heap.size + 4]? = some (.deferred (some []))
  ll : W.heap[w.heap.size + 5]? = some (.loop (rfDone w2 a ps assign body fn))
theorem SpS.busy {w W : World} {rec : Loop} {r : List UInt8} (h : SpS w rec r W) : SpS w { rec with state := .busy } r (rfBusy W (w.heap.size + 5) rec) := h.put
theorem SpS.on {w W : World} {rec rec' : Loop} {r : List UInt8} (h : SpS w rec' r W) (hr : { rec with state := .ready, pending := none } = rec) : SpS w rec r (rfOn W (w.heap.size + 5) rec) := by
  unfold rfOn; rw [hr]; exact h.put
theorem SpX.of {w w2 W : World} {rec' : Loop} {r : List UInt8} {a : Act} {ps : Array Tmp} {assign body : Code} {fn : FuncId} (h : SpS w rec' r W) : SpX w w2 a ps assign body fn (rfOff W (w.heap.size + 5) (rfRec w2 a ps assign body fn)) :=
  ⟨keepPut h.kp (by omega) _, boxPut h.rb (by omega) _, (World.putObj_heap_other (by omega)).trans h.dd, World.putObj_heap_same (Array.getElem?_eq_some_iff.1 h.ll).1⟩
theorem SpS.ended {w W : World} {rec : Loop} {r : List UInt8} (h : SpS w rec r W) : SpS w { rec with state := .exhausted } r (rfEnd W (w.heap.size + 5) rec) := h.put
theorem SpX.ended {w w2 W : World} {a : Act} {ps : Array Tmp} {assign body : Code} {fn : FuncId} (h : SpX w w2 a ps assign body fn W) : (rfEnd W (w.heap.size + 5) (rfDone w2 a ps assign body fn)).heap[w.heap.size + 4]? = some (.deferred (some [])) ∧ Boxed (rfEnd W (w.heap.size + 5) (rfDone w2 a ps assign body fn)) w.heap.size 4 (.bool false) ∧ Keep [] w (rfEnd W (w.heap.size + 5) (rfDone w2 a ps assign body fn)) :=
  ⟨(World.putObj_heap_other (by omega)).trans h.dd, boxPut h.rb (by omega) _, keepPut h.kp (by omega) _⟩
theorem SpS.resF {w W : World} {rec : Loop} {r : List UInt8} (h : SpS w rec r W) : SpS w rec r (W.setCell ⟨w.heap.size, 0, none⟩ (.bool false)) :=
  ⟨h.kp.trans' ((Keep.refl [w.heap.size] W).setCell _ _ (by simp)) (fun x hx hlt => by have h1 : x = w.heap.size := (by simpa using hx); omega),
    h.rb.set _, h.bs.other (by omega) _, h.bp.other (by omega) _, h.bv.other (by omega) _, (KeepsOthers.setCell W _ _).same _ _ h.dd rfl, (KeepsOthers.setCell W _ _).same _ _ h.ll rfl⟩
theorem split_range {g : Operand} {ps : Array Tmp} {assign body : Code} {Q : Exit → Act → World → Prop} {a : Act} {w w2 : World} (s : List UInt8) (hs : s.length ≤ 128)
    (hg : a.eval g = .func (.func 213) #[] #[.pointer (some ⟨w.heap.size + 2, 0, none⟩), .pointer (some ⟨w.heap.size + 1, 0, none⟩), .pointer (some ⟨w.heap.size + 3, 0, none⟩)])
    (hk : Keep [] w w2) (hsz : w2.heap.size = w.heap.size + 4) (b0 : Boxed w2 w.heap.size 4 (.bool false)) (b1 : Boxed w2 (w.heap.size + 1) 9 (.string (S s))) (b2 : Boxed w2 (w.heap.size + 2) 9 (.string ⟨#[47]⟩)) (b3 : Boxed w2 (w.heap.size + 3) 3 (.int .i64 0))
    (hround : ∀ fn r x W, x.length ≤ 128 → SpS w (rfRec w2 a ps assign body fn) r W → YieldAt Fence.wide 1 Tryz.prog (w.heap.size + 5) #[.string (S x)] W fun e W' => (e = .returned (.bool true) ∧ isPartM x = true ∧ SpS w (rfRec w2 a ps assign body fn) r W') ∨ (e = .returned (.bool false) ∧ isPartM x = false ∧ SpX w w2 a ps assign body fn W'))
    (hdone : ∀ fn r W, (slashF s.length s).all isPartM = true → SpS w (rfRec w2 a ps assign body fn) r W → Q .normal (rfMark w2 a) (rfEnd W (w.heap.size + 5) (rfRec w2 a ps assign body fn)))
    (hstop : ∀ fn W, (slashF s.length s).all isPartM = false → SpX w w2 a ps assign body fn W → Code.ret.wpIn Fence.wide 3 Tryz.prog Q (rfMark w2 a) (rfEnd W (w.heap.size + 5) (rfDone w2 a ps assign body fn))) :
    (Code.rangeFunc g ps assign body).wpIn Fence.wide 3 Tryz.prog Q a w2 := by
  refine rf_range rfl (by omega) hg trivial (enters_of Tryz.func213 (by kernel_rfl) rfl) ?_; intro fn _; rw [hsz]; have hr := hround fn; have hd := hdone fn; have hst := hstop fn; generalize hrec : rfRec w2 a ps assign body fn = rec at *
  have hS : SpS w rec s (rfStart w2 rec) := by
    have k1 : Keep [] w2 (rfStart w2 rec) := ((Keep.refl [] w2).alloc _).alloc _; refine ⟨hk.trans k1, boxAt b0 k1, boxAt b1 k1, boxAt b2 k1, boxAt b3 k1, ?_, ?_⟩
    · have h1 := World.alloc_heap_new w2 (.deferred (some [])); rw [hsz] at h1; exact keepHeap ((Keep.refl [] (w2.alloc (.deferred (some [])))).alloc (.loop rec)) h1
    · have h1 := World.alloc_heap_new (w2.alloc (.deferred (some []))) (.loop rec); rw [World.size_alloc, hsz] at h1; exact h1
  refine (split_iter (n := 1) s hs (fun r x W hx h => hr r x W hx h) _ hS).mono ?_; rintro e W2 ⟨hv, ⟨hall, r, h⟩ | ⟨hall, h⟩⟩
  · exact ⟨hv, .inl ⟨h.ll, hd r W2 hall h⟩⟩
  · exact ⟨hv, .inr ⟨h.ll, hst W2 hall h⟩⟩
theorem place_IsRepo (HP : ∀ (l : List UInt8) (w : World), l.length ≤ 128 → Calls Tryz.prog 152 #[.string (S l)] w fun e w' => e = .returned (.bool (isPartM l)) ∧ Keep [] w w')
    (s : List UInt8) (w : World) (hs : s.length ≤ maxLen) :
    Calls Tryz.prog 97 #[.string (S s)] w fun e w' => e = .returned (.bool (isRepoM s)) ∧ Keep [] w w' := by
  have hs' : s.length ≤ 9223372036854775807 := hs; have sS := S_size s; refine (callsIn_wide (n := 3)).1 ?_; refine callsIn_of_wp_marks Tryz.func97 rfl trivial ?_ rfl; simp only [Tryz.ntmps97, List.size_toArray, List.length_cons, List.length_nil, Nat.reduceAdd, Nat.reduceSub, Array.replicate_succ, Array.replicate_zero, List.push_toArray, List.append_toArray, List.nil_append, List.cons_append]; by_cases hl : 128 < s.length
  · have q : decide ((s.length : Int) > 128) = true := by simp; omega
    have hR : isRepoM s = false := by unfold isRepoM; rw [decide_eq_false (by omega)]; rfl
    rw [hR]; clear hl hs hR; gi_wp2; have hc := (Boxed.new w 4 (.bool false)).cell; refine ⟨.bool false, ?_, rfl, (Keep.refl [] w).alloc _⟩; simp [results, Tryz.f97, go_sem, hc]
  · have q : decide ((s.length : Int) > 128) = false := by simp; omega
    have hR : isRepoM s = (slashF s.length s).all isPartM := by unfold isRepoM; rw [decide_eq_true (by omega)]; rfl
    rw [hR]; have HS2 := Lib.hid (fun w' => SplitSeq_made s w')
    gi_wp2_with (refine ⟨trivial, ?_⟩; gi_at_call 151; refine (callsIn_wide.2 (HS2.out _)).mono ?_; rintro e w' ⟨rfl, rfl⟩)
    have b0 : Boxed ((((w.alloc (.cells #[.bool false] 4)).alloc (.cells #[.string (S s)] 9)).alloc (.cells #[.string ⟨#[47]⟩] 9)).alloc (.cells #[.int .i64 0] 3)) w.heap.size 4 (.bool false) := (((Boxed.new w _ _).alloc _).alloc _).alloc _; have b1 := ((Boxed.new (w.alloc (.cells #[.bool false] 4)) 9 (.string (S s))).alloc (.cells #[.string ⟨#[47]⟩] 9)).alloc (.cells #[.int .i64 0] 3); have b2 := (Boxed.new ((w.alloc (.cells #[.bool false] 4)).alloc (.cells #[.string (S s)] 9)) 9 (.string ⟨#[47]⟩)).alloc (.cells #[.int .i64 0] 3); have b3 := Boxed.new (((w.alloc (.cells #[.bool false] 4)).alloc (.cells #[.string (S s)] 9)).alloc (.cells #[.string ⟨#[47]⟩] 9)) 3 (.int .i64 0); have hk : Keep [] w ((((w.alloc (.cells #[.bool false] 4)).alloc (.cells #[.string (S s)] 9)).alloc (.cells #[.string ⟨#[47]⟩] 9)).alloc (.cells #[.int .i64 0] 3)) := ((((Keep.refl [] w).alloc _).alloc _).alloc _).alloc _; have hsz : ((((w.alloc (.cells #[.bool false] 4)).alloc (.cells #[.string (S s)] 9)).alloc (.cells #[.string ⟨#[47]⟩] 9)).alloc (.cells #[.int .i64 0] 3)).heap.size = w.heap.size + 4 := by simp
    simp only [World.size_alloc] at b1 b2 b3; generalize (((w.alloc (.cells #[.bool false] 4)).alloc (.cells #[.string (S s)] 9)).alloc (.cells #[.string ⟨#[47]⟩] 9)).alloc (.cells #[.int .i64 0] 3) = w2 at *; refine split_range (w := w) s (by omega) rfl hk hsz b0 b1 b2 b3 ?round ?done ?stop
    case round =>
      intro fn r x W hx hS; refine rf_yield (a1 := ?a1) trivial hS.ll rfl rfl ?assign ?body
      case assign =>
        intro K hK; dsimp only [rfRec]; gi_wp2; exact hK
      case body =>
        have hp := HP x; have hB := hS.busy; dsimp only [rfRec] at hB ⊢; generalize hWB : rfBusy W (w.heap.size + 5) _ = WB at hB ⊢; have HB := Lib.hid hB
        cases hpm : isPartM x with
        | true =>
          have HPx := Lib.hid (fun w' => by have := hp w' hx; rwa [hpm] at this); clear hB hp HP hWB hsz
          gi_wp2_with (refine ⟨trivial, ?_⟩; gi_at_call 152; refine (CallsIn.inRound _ (callsIn_wide.2 (HPx.out _))).mono ?_; rintro e w' ⟨rfl, k⟩)
          exact ⟨keepOthers k, SpS.on (HB.out.keep0 k) rfl⟩
        | false =>
          have HPx := Lib.hid (fun w' => by have := hp w' hx; rwa [hpm] at this); clear hB hp HP hWB hsz
          gi_wp2_with (refine ⟨trivial, ?_⟩; gi_at_call 152; refine (CallsIn.inRound _ (callsIn_wide.2 (HPx.out _))).mono ?_; rintro e w' ⟨rfl, k⟩; have c0 := (HB.out.keep0 k).rb.cell; have f0 := (HB.out.keep0 k).rb.frozen)
          exact ⟨(keepOthers k).trans (KeepsOthers.setCell _ _ _), SpX.of (HB.out.keep0 k).resF⟩
    case done =>
      intro fn r W hall hS; have hE := hS.ended; have hdd := hE.dd; rw [← hsz] at hdd; generalize rfEnd W (w.heap.size + 5) _ = WE at hE hdd ⊢; have c0 := hE.rb.cell; have f0 := hE.rb.frozen; have HALL := Lib.hid hall; unfold rfMark; have hK' := (KeepsOthers.setCell WE ⟨w.heap.size, 0, none⟩ (.bool true)).same w2.heap.size _ hdd rfl; have hkp : Keep [] w ((WE.setCell ⟨w.heap.size, 0, none⟩ (.bool true)).putObj w2.heap.size (.deferred none)) := keepPut (hE.kp.trans' ((Keep.refl [w.heap.size] WE).setCell _ _ (by simp)) (fun x hx hlt => by have h1 : x = w.heap.size := (by simpa using hx); omega)) (by omega) _; have hc5 := cell_kept (World.cell?_setCell_same' WE ⟨w.heap.size, 0, none⟩ (.bool true) (by rw [c0]; rfl)) (grownBy_putObj' _ w2.heap.size (.deferred none)) (fun r e => by cases e; exact ⟨_, hK', rfl⟩); have HX := Lib.hid (And.intro hK' (And.intro hkp hc5)); clear hE hdd hK' hkp hc5 hall hsz HP; gi_wp2; refine ⟨by simp, .inl ⟨_, _, rfl, run_takeDeferred HX.out.1, ?_⟩⟩; have hc5 := HX.out.2.2; refine ⟨.bool true, ?_, by rw [HALL.out], HX.out.2.1⟩; simp [results, Tryz.f97, go_sem, hc5]
    case stop =>
      intro fn W hall hX; obtain ⟨hdd, hrb, hkp0⟩ := hX.ended; rw [← hsz] at hdd; generalize rfEnd W (w.heap.size + 5) _ = WE at hdd hrb hkp0 ⊢; have HALL := Lib.hid hall; unfold rfMark; have hkp : Keep [] w (WE.putObj w2.heap.size (.deferred none)) := keepPut hkp0 (by omega) _; have hc5 := cell_kept hrb.cell (grownBy_putObj' _ w2.heap.size (.deferred none)) (fun r e => by cases e; exact ⟨_, hdd, rfl⟩); have HX := Lib.hid (And.intro hdd (And.intro hkp hc5)); clear hX hdd hrb hkp0 hkp hc5 hall hsz HP; gi_wp2; refine ⟨by simp, .inl ⟨_, _, rfl, run_takeDeferred HX.out.1, ?_⟩⟩; have hc5 := HX.out.2.2; refine ⟨.bool false, ?_, by rw [HALL.out], HX.out.2.1⟩; simp [results, Tryz.f97, go_sem, hc5]
end Go.Proofs.YtkghgaopcgcheaaGreatDoor
namespace Go.Proofs.YtkghgaopcgcheaaGreatDoor
open Go.RowKit Go.Shelf
theorem place_isSeparator (l : List UInt8) (w : World) (hs : l.length ≤ maxLen) :
    Calls Tryz.prog 187 #[.string (S l)] w fun e w' => e = .returned (.bool (isSepM l)) ∧ Keep [] w w' := by
  have hT := fun w' => Any.strings_Trim_laid Tryz.lays160 (by kernel_rfl) (S l) ⟨#[45]⟩ w' hs (by decide) (ascii_of_all (by decide))
  rw [S_list] at hT; have HT := Lib.hid hT; have tl := S_toList l; have tt := S_toList (Lib.trimS l [45]); have hM : isSepM l = (l == [46] || l == [95] || l == [95, 95] || (!l.isEmpty && (Lib.trimS l [45]).isEmpty)) := rfl; have HM := Lib.hid hM; clear hT hs hM; by_cases h1 : l = [46]
  · have q1 : (l == [46]) = true := by simp [h1]
    have HR := Lib.hid (show isSepM l = true by rw [HM.out, q1]; rfl); clear h1; go_enter Tryz.func187, Tryz.ntmps187; go_wp2_with fail; go_ret; exact ⟨ret_bool HR.out.symm, Keep.refl _ _⟩
  · have q1 : (l == [46]) = false := by simp [h1]
    by_cases h2 : l = [95]
    · have q2 : (l == [95]) = true := by simp [h2]
      have HR := Lib.hid (show isSepM l = true by rw [HM.out, q1, q2]; rfl); clear h1 h2; go_enter Tryz.func187, Tryz.ntmps187; go_wp2_with fail; go_ret; exact ⟨ret_bool HR.out.symm, Keep.refl _ _⟩
    · have q2 : (l == [95]) = false := by simp [h2]
      by_cases h3 : l = [95, 95]
      · have q3 : (l == [95, 95]) = true := by simp [h3]
        have HR := Lib.hid (show isSepM l = true by rw [HM.out, q1, q2, q3]; rfl); clear h1 h2 h3; go_enter Tryz.func187, Tryz.ntmps187; go_wp2_with fail; go_ret; exact ⟨ret_bool HR.out.symm, Keep.refl _ _⟩
      · have q3 : (l == [95, 95]) = false := by simp [h3]
        by_cases h4 : l = []
        · have q4 : l.isEmpty = true := by simp [h4]
          have HR := Lib.hid (show isSepM l = false by rw [HM.out, q1, q2, q3, h4]; rfl); clear h1 h2 h3 h4; go_enter Tryz.func187, Tryz.ntmps187; go_wp2_with fail; go_ret; exact ⟨ret_bool HR.out.symm, Keep.refl _ _⟩
        · have q4 : l.isEmpty = false := by simp [h4]
          have HR := Lib.hid (show isSepM l = (Lib.trimS l [45]).isEmpty by
            rw [HM.out, q1, q2, q3]
            cases l with
            | nil => exact absurd rfl h4
            | cons x r => rfl)
          clear h1 h2 h3 h4; generalize Lib.trimS l [45] = tr at *; go_enter Tryz.func187, Tryz.ntmps187; go_wp2_with (go_at_call 220; refine (HT.out _).mono ?_; rintro e w1 ⟨rfl, hb⟩); go_ret; exact ⟨ret_bool HR.out.symm, Keep.of_below hb _⟩
theorem place_isPart (s : List UInt8) (w : World) (hs : s.length ≤ 128) :
    Calls Tryz.prog 152 #[.string (S s)] w fun e w' => e = .returned (.bool (isPartM s)) ∧ Keep [] w w' := by
  have HT := Lib.hid (fun (l : List UInt8) w' => show Calls Tryz.prog 186 #[.string (S l), .string ⟨#[97, 98, 99, 100, 101, 102, 103, 104, 105, 106, 107, 108, 109, 110, 111, 112, 113, 114, 115, 116, 117, 118, 119, 120, 121, 122, 48, 49, 50, 51, 52, 53, 54, 55, 56, 57]⟩] w' fun e w1 => e = .returned (.string (S (wordR l))) ∧ Keep [] w' w1 by
    have := Any.strings_TrimLeft_laid Tryz.lays161 (by kernel_rfl) (S l) ⟨lettersB.toArray⟩ w' (by decide) (ascii_of_all (by decide)); rw [S_list] at this; exact this.mono fun e w1 h => ⟨h.1, Keep.of_below h.2 _⟩)
  have HT2 := Lib.hid (fun (l : List UInt8) w' => show Calls Tryz.prog 186 #[.string (S l), .string ⟨#[46, 95, 45]⟩] w' fun e w1 => e = .returned (.string (S (sepR l))) ∧ Keep [] w' w1 by
    have := Any.strings_TrimLeft_laid Tryz.lays161 (by kernel_rfl) (S l) ⟨sepsB.toArray⟩ w' (by decide) (ascii_of_all (by decide)); rw [S_list] at this; exact this.mono fun e w1 h => ⟨h.1, Keep.of_below h.2 _⟩)
  go_enter Tryz.func152, Tryz.ntmps152; go_wp2_with fail; go_step3; go_wp2_with fail; go_step3; go_wp2_with fail
  go_loopg [0] s.length (fun g sv wr => ∃ l : List UInt8, sv = .string (S l) ∧ l.length ≤ g ∧ l.length ≤ 128 ∧ Hid (isPartM s = partM (g + 1) l) ∧ Hid (Keep [] w wr))
  case atStart => exact ⟨s, rfl, Nat.le_refl _, hs, Lib.hid rfl, Lib.hid (Keep.refl _ _)⟩
  case round =>
    obtain ⟨l, rfl, hg, hl, HE, HK⟩ := hrel; have sL := S_size l; have sW := S_size (wordR l); have sP := S_size (sepR (wordR l)); have w1 := wordR_le l; have w2 := sepR_le (wordR l); have tW := S_toList (wordR l); have h1 := Lib.hid (HT.out l); have h2 := Lib.hid (HT2.out (wordR l))
    have HEq := Lib.hid (show partM (gk + 1) l = if (wordR l).length = l.length then false else if wordR l = [] then true
      else if isSepM ((wordR l).take ((wordR l).length - (sepR (wordR l)).length)) then partM gk (sepR (wordR l)) else false from rfl)
    have x1 : (S (wordR l)).extract 0 ((wordR l).length - (sepR (wordR l)).length) = S ((wordR l).take ((wordR l).length - (sepR (wordR l)).length)) := by rw [S_extract]; simp
    have HSp := Lib.hid (fun w' => place_isSeparator ((wordR l).take ((wordR l).length - (sepR (wordR l)).length)) w' (by rw [List.length_take]; unfold maxLen; omega)); have n1 : (((wordR l).length : Int) - ((sepR (wordR l)).length : Int)).toNat = (wordR l).length - (sepR (wordR l)).length := by omega
    have wk := IntWalk.i64_in (((wordR l).length : Int) - ((sepR (wordR l)).length : Int)) (by omega); generalize (wordR l).take ((wordR l).length - (sepR (wordR l)).length) = sp at *; generalize hwr : wordR l = wd at *; generalize sepR wd = nx at *; have HE2 := Lib.hid (HE.out.trans HEq.out); clear hwr HEq HE HT HT2; by_cases c1 : wd.length = l.length
    · have q1 := (nat_eq c1).1; have HR := Lib.hid (show isPartM s = false by rw [HE2.out, if_pos c1]); clear c1 HE2; go_wp2_with fail; refine (h1.out _).mono ?_; rintro e w5 ⟨rfl, k5⟩; have K5 := Lib.hid (HK.out.trans k5); clear k5; go_wp2_with fail; (try rw [Exit.noGoto_ret]); go_ret; exact ⟨ret_bool HR.out.symm, K5.out⟩
    · have q1 := (nat_ne c1).1; by_cases c2 : wd = []
      · have q2 : wd.isEmpty = true := by simp [c2]
        have HR := Lib.hid (show isPartM s = true by rw [HE2.out, if_neg c1, if_pos c2]); clear c1 c2 HE2; go_wp2_with fail; refine (h1.out _).mono ?_; rintro e w5 ⟨rfl, k5⟩; have K5 := Lib.hid (HK.out.trans k5); clear k5; go_wp2_with fail; (try rw [Exit.noGoto_ret]); go_ret; exact ⟨ret_bool HR.out.symm, K5.out⟩
      · have q2 : wd.isEmpty = false := by simp [c2]
        have i0 : (0 : Int) ≤ (wd.length : Int) - (nx.length : Int) := by omega
        have i1 : (wd.length : Int) - (nx.length : Int) ≤ (wd.length : Int) := by omega
        have hlt : nx.length < gk := by omega
        cases hsp : isSepM sp with
        | false =>
          have HR := Lib.hid (show isPartM s = false by rw [HE2.out, if_neg c1, if_neg c2, hsp]; rfl); rw [hsp] at HSp; clear c1 c2 HE2 hsp; go_wp2_with fail; refine (h1.out _).mono ?_; rintro e w5 ⟨rfl, k5⟩; have K5 := Lib.hid (HK.out.trans k5); clear k5; go_wp2_with fail; refine (h2.out _).mono ?_; rintro e w6 ⟨rfl, k6⟩; have K6 := Lib.hid (K5.out.trans k6); clear k6; go_wp2_with fail; refine (HSp.out _).mono ?_; rintro e w7 ⟨rfl, k7⟩; have K7 := Lib.hid (K6.out.trans k7); clear k7; go_wp2_with fail; (try rw [Exit.noGoto_ret]); go_ret; exact ⟨ret_bool HR.out.symm, K7.out⟩
        | true =>
          have HR := Lib.hid (show isPartM s = partM gk nx by rw [HE2.out, if_neg c1, if_neg c2, hsp]; rfl); rw [hsp] at HSp; clear c1 c2 HE2 hsp; go_wp2_with fail; refine (h1.out _).mono ?_; rintro e w5 ⟨rfl, k5⟩; have K5 := Lib.hid (HK.out.trans k5); clear k5; go_wp2_with fail; refine (h2.out _).mono ?_; rintro e w6 ⟨rfl, k6⟩; have K6 := Lib.hid (K5.out.trans k6); clear k6; go_wp2_with fail; refine (HSp.out _).mono ?_; rintro e w7 ⟨rfl, k7⟩; have K7 := Lib.hid (K6.out.trans k7); clear k7; go_wp2_with fail
          go_roundg (gk - 1)
          case measure => omega
          case rel => exact ⟨nx, rfl, by omega, by omega, Lib.hid (by rw [HR.out]; congr 1; omega), K7⟩
theorem tag_neg {b : UInt8} : tagsB.contains b = true ↔ ¬ Lib.indexByte tagsB b < 0 := by
  rw [Lib.contains_iff_indexByte]; simp
theorem place_IsTag (s : List UInt8) (w : World) (hs : s.length ≤ maxLen) :
    Calls Tryz.prog 98 #[.string (S s)] w fun e w' => e = .returned (.bool (isTagM s)) ∧ Keep [] w w' := by
  have hs' : s.length ≤ 9223372036854775807 := hs; have hcv := conv_run w (S s); have hcell : Hid (∀ (k : Nat) (c : UInt8), s[k]? = some c → _) := fun k c h => conv_at w 5 h
  have hkp := conv_keep w 5 (S s); generalize Lib.bytesWorld w 5 (S s) = wb at hcv hcell hkp; have hsz := S_size s; have hte := S_toList s; have HM := Lib.hid (show isTagM s = (!s.isEmpty && decide (s.length ≤ 128) && (s.headD 0 != 46) && (s.headD 0 != 45) && s.all tagsB.contains) from rfl); clear hs
  cases hem : s.isEmpty with
  | true =>
    have HR := Lib.hid (show isTagM s = false by rw [HM.out, hem]; rfl); clear HM; go_enter Tryz.func98, Tryz.ntmps98; go_wp2_with fail; go_ret; exact ⟨ret_bool HR.out.symm, Keep.refl _ _⟩
  | false =>
    by_cases hl : 128 < s.length
    · have q2 : decide ((s.length : Int) > 128) = true := by simp; omega
      have HR := Lib.hid (show isTagM s = false by rw [HM.out, hem, decide_eq_false (by omega)]; rfl); clear HM hl; go_enter Tryz.func98, Tryz.ntmps98; go_wp2_with fail; go_ret; exact ⟨ret_bool HR.out.symm, Keep.refl _ _⟩
    · have q2 : decide ((s.length : Int) > 128) = false := by simp; omega
      obtain ⟨x, hx⟩ : ∃ x, s[0]? = some x := ⟨_, List.getElem?_eq_getElem (by cases s with
        | nil => simp at hem
        | cons a r => simp)⟩
      have hhd : s.headD 0 = x := by cases s with
        | nil => simp at hem
        | cons a r => simpa using hx
      have hlen : 0 < s.length := (List.getElem?_eq_some_iff.1 hx).1; have hget := S_get hx; have hx8 := u8_nat x; by_cases h46 : x = 46
      · have q3 := (int_eq (show (x.toNat : Int) = 46 by rw [h46]; rfl)).1; have HR := Lib.hid (show isTagM s = false by rw [HM.out, hhd, h46]; simp); clear HM hl h46 hhd hx; go_enter Tryz.func98, Tryz.ntmps98; go_wp2_with fail; go_ret; exact ⟨ret_bool HR.out.symm, Keep.refl _ _⟩
      · have q3 := (int_ne (show (x.toNat : Int) ≠ 46 from fun h => h46 (UInt8.toNat_inj.1 (by have h9 : (46 : UInt8).toNat = 46 := rfl; omega)))).1; by_cases h45 : x = 45
        · have q4 := (int_eq (show (x.toNat : Int) = 45 by rw [h45]; rfl)).1; have HR := Lib.hid (show isTagM s = false by rw [HM.out, hhd, h45]; simp); clear HM hl h46 h45 hhd hx; go_enter Tryz.func98, Tryz.ntmps98; go_wp2_with fail; go_ret; exact ⟨ret_bool HR.out.symm, Keep.refl _ _⟩
        · have q4 := (int_ne (show (x.toNat : Int) ≠ 45 from fun h => h45 (UInt8.toNat_inj.1 (by have h9 : (45 : UInt8).toNat = 45 := rfl; omega)))).1; have HR := Lib.hid (show isTagM s = s.all tagsB.contains by rw [HM.out, hem, hhd, decide_eq_true (by omega)]; simp [h46, h45]); clear HM hl h46 h45 hhd hx; go_enter Tryz.func98, Tryz.ntmps98; go_wp2_with fail
          go_loopg [25] s.length (fun g iv wx => ∃ k : Nat, iv = .int .i64 (k : Nat) ∧ k ≤ s.length ∧ g = s.length - k ∧ Hid ((s.take k).all tagsB.contains = true) ∧ wb = wx)
          case atStart => exact ⟨0, rfl, by omega, rfl, Lib.hid (by simp), rfl⟩
          case round =>
            obtain ⟨k, rfl, hk, hg, HA, rfl⟩ := hrel; by_cases hlt : k < s.length
            · obtain ⟨c, hc⟩ : ∃ c, s[k]? = some c := ⟨_, List.getElem?_eq_getElem hlt⟩
              have a0 := hcell.out k c hc; have c8 := u8_nat c; have hix := Tryz.strings_IndexByte (S tagsB) c.toNat; have ec : ((c.toNat : Int)).toNat.toUInt8 = c := by simp
              rw [ec, S_list] at hix; have HIX := Lib.hid hix; have HC := Lib.hid hc; have wk := IntWalk.i64_in ((k : Int) + 1) (by omega); clear hix hc ec
              cases htc : tagsB.contains c with
              | true =>
                have q5 : decide (Lib.indexByte tagsB c < 0) = false := by simpa using tag_neg.1 htc
                have HTC := Lib.hid htc; clear htc; generalize Lib.indexByte tagsB c = ix at *; go_wp2_with (go_at_call 153; refine (HIX.out _).mono ?_; rintro e w1 ⟨rfl, rfl⟩)
                go_roundg (s.length - (k + 1))
                case measure => omega
                case rel => exact ⟨k + 1, by go_num, by omega, rfl, Lib.hid (by rw [take_snoc HC.out, List.all_append, HA.out]; simp; simpa using HTC.out), rfl⟩
              | false =>
                have q5 : decide (Lib.indexByte tagsB c < 0) = true := by
                  have := (not_congr (tag_neg (b := c))).1 (by rw [htc]; simp); simpa using this
                have HF := Lib.hid (show isTagM s = false by
                  rw [HR.out, List.all_eq_false]; exact ⟨c, List.mem_of_getElem? HC.out, by rw [htc]; simp⟩)
                clear htc; generalize Lib.indexByte tagsB c = ix at *; go_wp2_with (go_at_call 153; refine (HIX.out _).mono ?_; rintro e w1 ⟨rfl, rfl⟩); go_ret; exact ⟨ret_bool HF.out.symm, hkp⟩
            · have hke : s.take k = s := List.take_of_length_le (by omega); have HF := Lib.hid (show isTagM s = true by rw [HR.out]; have := HA.out; rwa [hke] at this); clear hke; go_wp2_with fail; go_ret; exact ⟨ret_bool HF.out.symm, hkp⟩
end Go.Proofs.YtkghgaopcgcheaaGreatDoor
namespace Go.Proofs.YtkghgaopcgcheaaGreatDoor
open Go.RowKit Go.Maps
theorem bool_lits (D : Nat) (b : Bool) : Tryz.prog.keyLits (D + 1) 4 [.bool b] = some [.bool b] := by
  unfold Program.keyLits; rw [Tryz.underlying4]
def tikIn (x : Tik) : Prop := x.repo.length ≤ maxLen ∧ x.tag.length ≤ maxLen ∧ x.typ.length ≤ maxLen ∧ in64 x.size ∧ in64 x.tick
def tikLits (x : Tik) : List Lit := [.string x.repo, .string x.tag, .bool x.found] ++ ((x.dig.1.map fun b => .int .u8 (b.toNat : Nat)) ++ [.string x.typ, .int .i64 x.size, .int .i64 x.tick])
theorem tikLits_inj {a b : Tik} (h : tikLits a = tikLits b) : a = b := by
  unfold tikLits at h; obtain ⟨h0, h⟩ := List.append_inj h (by simp); obtain ⟨h1, h2⟩ := List.append_inj h (by simp [a.dig.2, b.dig.2]); simp at h0 h2; obtain ⟨e1, e2, e3⟩ := h2; obtain ⟨k1, k2, k3⟩ := h0; have e0 : a.dig = b.dig := Subtype.ext (map_inj (fun x y hxy => by simp at hxy; exact UInt8.toNat_inj.1 (by omega)) _ _ h1); cases a; cases b; simp at *; exact ⟨k1, k2, k3, e0, e1, e2, e3⟩
theorem tik_lits (D : Nat) (j : Tik) (hj : tikIn j) : Tryz.prog.keyLits (D + 3) 51 j.cells = some (tikLits j) := by
  have hc : Tryz.prog.cellsOf 51 = 38 := by kernel_rfl
  have h1 : Tryz.prog.cellsOf 5 = 1 := by kernel_rfl
  have hd : Tryz.prog.cellsOf 25 = 32 := by kernel_rfl
  have hs : Tryz.prog.cellsOf 9 = 1 := by kernel_rfl
  have hi : Tryz.prog.cellsOf 3 = 1 := by kernel_rfl
  have hl := digC_length j.dig; have hbo : Tryz.prog.cellsOf 4 = 1 := by kernel_rfl
  have q0 : Tryz.prog.keyLits (D + 2) 9 ((j.cells.drop 0).take 1) = some [.string j.repo] := str_lits _ _ hj.1; have q1 : Tryz.prog.keyLits (D + 2) 9 ((j.cells.drop 1).take 1) = some [.string j.tag] := str_lits _ _ hj.2.1; have q2 : Tryz.prog.keyLits (D + 2) 4 ((j.cells.drop 2).take 1) = some [.bool j.found] := bool_lits _ _; have e3 : j.cells.drop 3 = digC j.dig ++ [.string (S j.typ), .int .i64 j.size, .int .i64 j.tick] := rfl
  have p0 : Tryz.prog.keyLits (D + 2) 25 ((j.cells.drop 3).take 32) = some (j.dig.1.map fun b => .int .u8 (b.toNat : Nat)) := by
    have e : (j.cells.drop 3).take 32 = j.dig.1.map fun b => Value.int .u8 (b.toNat : Nat) := by
      rw [e3, List.take_left' hl]; rfl
    rw [e]; exact keyLits_bytes Tryz.underlying25 Tryz.underlying5 h1 hd D j.dig.1 j.dig.2
  have p1 : Tryz.prog.keyLits (D + 2) 9 ((j.cells.drop 35).take 1) = some [.string j.typ] := by
    have e : (j.cells.drop 35).take 1 = [.string (S j.typ)] := by rw [show 35 = 3 + 32 from rfl, ← List.drop_drop, e3, List.drop_left' hl]; rfl
    rw [e]; exact str_lits _ _ hj.2.2.1
  have p2 : Tryz.prog.keyLits (D + 2) 3 ((j.cells.drop 36).take 1) = some [.int .i64 j.size] := by
    have e : (j.cells.drop 36).take 1 = [.int .i64 j.size] := by rw [show 36 = 3 + (32 + 1) from rfl, ← List.drop_drop, e3, ← List.drop_drop, List.drop_left' hl]; rfl
    rw [e]; exact int_lits _ _ hj.2.2.2.1
  have p3 : Tryz.prog.keyLits (D + 2) 3 ((j.cells.drop 37).take 1) = some [.int .i64 j.tick] := by
    have e : (j.cells.drop 37).take 1 = [.int .i64 j.tick] := by rw [show 37 = 3 + (32 + 2) from rfl, ← List.drop_drop, e3, ← List.drop_drop, List.drop_left' hl]; rfl
    rw [e]; exact int_lits _ _ hj.2.2.2.2
  unfold Program.keyLits; rw [Tryz.underlying51]; simp only; rw [if_pos ⟨by rw [hc]; exact Tik.cells_length j, by kernel_rfl⟩]; simp only [List.mapM_cons, List.mapM_nil, hd, hs, hi, hbo, q0, q1, q2, p0, p1, p2, p3]; rfl
theorem eqTik (a b : Tik) (ha : tikIn a) (hb : tikIn b) (w : World) : (Op.equalIn 10000 51 (.agg a.cells.toArray) (.agg b.cells.toArray)).run Tryz.prog w = .ok (decide (a = b)) w := by
  have hc : Tryz.prog.cellsOf 51 = 38 := by kernel_rfl
  have hf : ∀ j : Tik, Value.formed Tryz.prog 51 (.agg j.cells.toArray) = true := fun j => by
    unfold Value.formed; rw [Tryz.underlying51]; simp [hc, Tik.cells_length]
  obtain ⟨r, hr, hi⟩ := run_equalIn_deep (P := Tryz.prog) 9997 3 51 (of_decide_eq_true (by kernel_rfl)) w 3 3 (.agg a.cells.toArray) (.agg b.cells.toArray) (tikLits a) (tikLits b) (hf a) (hf b) (tik_lits 0 a ha) (tik_lits 0 b hb); refine (show (Op.equalIn 10000 51 (.agg a.cells.toArray) (.agg b.cells.toArray)).run Tryz.prog w = .ok r w from hr).trans ?_; congr 1; rw [Bool.eq_iff_iff, hi, decide_eq_true_eq]; exact ⟨tikLits_inj, fun e => by rw [e]⟩
def goodT (t : Tik) : Bool := isRepoM t.repo && isTagM t.tag && decide (0 ≤ t.tick ∧ t.tick ≤ 1099511627776) && (if t.found then decide (t.typ.length ≤ 100) && decide (0 ≤ t.size ∧ t.size ≤ 1048576) else decide (t = ⟨t.repo, t.tag, false, dig00, [], 0, t.tick⟩))
theorem ticket_within (n a b : Int) (w : World) : Calls Tryz.prog 99 #[.int .i64 n, .int .i64 a, .int .i64 b] w fun e w' => e = .returned (.bool (decide (a ≤ n ∧ n ≤ b))) ∧ w = w' := by
  by_cases h1 : a ≤ n
  · by_cases h2 : n ≤ b
    · have HV := Lib.hid (show decide (a ≤ n ∧ n ≤ b) = true from decide_eq_true ⟨h1, h2⟩); rw [HV.out]; have f1 : decide (n ≥ a) = true := decide_eq_true h1; have f2 : decide (n ≤ b) = true := decide_eq_true h2; go_enter Tryz.func99, Tryz.ntmps99; go_wp2_with fail; go_ret; exact ⟨rfl, rfl⟩
    · have HV := Lib.hid (show decide (a ≤ n ∧ n ≤ b) = false from decide_eq_false (fun h => h2 h.2)); rw [HV.out]; have f1 : decide (n ≥ a) = true := decide_eq_true h1; have f2 : decide (n ≤ b) = false := decide_eq_false h2; go_enter Tryz.func99, Tryz.ntmps99; go_wp2_with fail; go_ret; exact ⟨rfl, rfl⟩
  · have HV := Lib.hid (show decide (a ≤ n ∧ n ≤ b) = false from decide_eq_false (fun h => h1 h.1)); rw [HV.out]; have f1 : decide (n ≥ a) = false := decide_eq_false h1; go_enter Tryz.func99, Tryz.ntmps99; go_wp2_with fail; go_ret; exact ⟨rfl, rfl⟩
theorem ticket_Good (x : Tik) (XC : List Value) (hx : x.cells = XC) (w : World) (hi : tikIn x) : Calls Tryz.prog 49 #[.agg XC.toArray] w fun e w' => e = .returned (.bool (goodT x)) ∧ Keep [] w w' := by
  obtain ⟨R, hR⟩ : ∃ R, goodT x = R := ⟨_, rfl⟩
  rw [hR]; have HR := Lib.hid (show R = (isRepoM x.repo && isTagM x.tag && decide (0 ≤ x.tick ∧ x.tick ≤ 1099511627776) && (if x.found then decide (x.typ.length ≤ 100) && decide (0 ≤ x.size ∧ x.size ≤ 1048576) else decide (x = ⟨x.repo, x.tag, false, dig00, [], 0, x.tick⟩))) from hR.symm); clear hR; obtain ⟨n, hn⟩ : ∃ n, w.heap.size = n := ⟨_, rfl⟩
  have k1 := (Keep.refl [] w).alloc (.cells XC.toArray 51); have b1 := Blk.new w XC 51; rw [hn] at b1; have HXL := Lib.hid (show XC.length = 38 by rw [← hx]; exact Tik.cells_length x); have HRP := Lib.hid (fun w => place_IsRepo place_isPart x.repo w hi.1); have HTG := Lib.hid (fun w => place_IsTag x.tag w hi.2.1); have HW1 := Lib.hid (fun w => ticket_within x.tick 0 1099511627776 w); obtain ⟨q, hq⟩ : ∃ q, decide (0 ≤ x.size ∧ x.size ≤ 1048576) = q := ⟨_, rfl⟩
  have HW2 := Lib.hid (fun w => ticket_within x.size 0 1048576 w); rw [hq] at HW2 HR; clear hq; obtain ⟨NC, hNC⟩ : ∃ z, (⟨x.repo, x.tag, false, dig00, [], 0, x.tick⟩ : Tik).cells = z := ⟨_, rfl⟩
  have HNC := Lib.hid hNC; obtain ⟨d, hd⟩ : ∃ d, decide (x = ⟨x.repo, x.tag, false, dig00, [], 0, x.tick⟩) = d := ⟨_, rfl⟩
  have heq := fun w => eqTik x ⟨x.repo, x.tag, false, dig00, [], 0, x.tick⟩ hi ⟨hi.1, hi.2.1, Nat.zero_le _, by show in64 0; unfold in64; omega, hi.2.2.2.2⟩ w
  rw [hx, hNC, hd] at heq; have HEQ := Lib.hid heq; rw [hd] at HR; go_enter Tryz.func49, Tryz.ntmps49
  go_upto_region 1 with fail
  (try simp only [hn]); generalize w.alloc (.cells XC.toArray 51) = w1 at k1 b1 ⊢
  have HC := Lib.hid (show ∀ w', Keep [] w1 w' → w'.cell? ⟨n, 0, none⟩ = some (.string (S x.repo)) ∧ w'.cell? ⟨n, 1, none⟩ = some (.string (S x.tag)) ∧ w'.cell? ⟨n, 2, none⟩ = some (.bool x.found) ∧ w'.cell? ⟨n, 35, none⟩ = some (.string (S x.typ)) ∧ w'.cell? ⟨n, 36, none⟩ = some (.int .i64 x.size) ∧ w'.cell? ⟨n, 37, none⟩ = some (.int .i64 x.tick) ∧ w'.rangeAt n 0 XC from fun w' k => by
    have b := k.blk b1 (by simp); exact ⟨b.get (by rw [← hx]; exact x.at0), b.get (by rw [← hx]; exact x.at1), b.get (by rw [← hx]; exact x.at2), b.get (by rw [← hx]; exact x.at35), b.get (by rw [← hx]; exact x.at36), b.get (by rw [← hx]; exact x.at37), b.rng⟩)
  have K1 := Lib.hid k1; obtain ⟨c0, c1, c2, c35, c36, c37, _⟩ := HC.out w1 (Keep.refl _ _); have hsz := S_size x.typ; clear hx hNC hd heq k1 b1 hn hi; go_wp2_with fail; refine (HRP.out _).mono ?_; rintro e w2 ⟨rfl, k2⟩; obtain ⟨c0, c1, c2, c35, c36, c37, _⟩ := HC.out w2 k2; have K2 := Lib.hid k2; clear k2
  cases hrp : isRepoM x.repo with
  | false =>
    have HV := Lib.hid (show R = false by rw [HR.out, hrp]; rfl); clear hrp HR; go_wp2_with fail; go_ret; exact ⟨by rw [HV.out]; rfl, K1.out.trans K2.out⟩
  | true =>
    rw [hrp] at HR; clear hrp; go_wp2_with fail; refine (HTG.out _).mono ?_; rintro e w3 ⟨rfl, k3⟩; obtain ⟨c0, c1, c2, c35, c36, c37, _⟩ := HC.out w3 (K2.out.trans k3); have K3 := Lib.hid (K2.out.trans k3); clear k3
    cases hrp : isTagM x.tag with
    | false =>
      have HV := Lib.hid (show R = false by rw [HR.out, hrp]; rfl); clear hrp HR; go_wp2_with fail; go_ret; exact ⟨by rw [HV.out]; rfl, K1.out.trans K3.out⟩
    | true =>
      rw [hrp] at HR; clear hrp; go_wp2_with fail; refine (HW1.out _).mono ?_; rintro e we ⟨rfl, rfl⟩
      cases hw1 : decide (0 ≤ x.tick ∧ x.tick ≤ 1099511627776) with
      | false =>
        have HV := Lib.hid (show R = false by rw [HR.out, hw1]; rfl); clear hw1 HR; go_wp2_with fail; go_ret; exact ⟨by rw [HV.out]; rfl, K1.out.trans K3.out⟩
      | true =>
        rw [hw1] at HR; clear hw1
        cases hfo : x.found with
        | false =>
          rw [hfo] at c2; have HV := Lib.hid (show R = d by rw [HR.out, hfo]; simp); clear hfo HR
          go_wp2_with (first | ((with_reducible refine gL 22 1 ?_); refine gl n 0 XC ((HC.out _ K3.out).2.2.2.2.2.2) (by rw [HXL.out]; kernel_rfl) ?_; try simp only [sq]) | ((with_reducible refine gB 29 ?_); refine wpList_build_is rfl 51 _ rfl NC (by rw [← HNC.out]; kernel_rfl) ?_; have heq := HEQ.out; simp only [sq]) | fail); go_ret; exact ⟨by rw [HV.out]; rfl, K1.out.trans K3.out⟩
        | true =>
          rw [hfo] at c2; have HR2 := Lib.hid (show R = (decide (x.typ.length ≤ 100) && q) by rw [HR.out, hfo]; simp); clear hfo HR; by_cases ht : x.typ.length ≤ 100
          · have ft : decide ((x.typ.length : Int) ≤ 100) = true := decide_eq_true (by omega); have HV := Lib.hid (show R = q by rw [HR2.out, decide_eq_true ht, Bool.true_and]); clear HR2; go_wp2_with fail; refine (HW2.out _).mono ?_; rintro e we ⟨rfl, rfl⟩; go_wp2_with fail; go_ret; exact ⟨by rw [HV.out]; rfl, K1.out.trans K3.out⟩
          · have ft : decide ((x.typ.length : Int) ≤ 100) = false := decide_eq_false (by omega); have HV := Lib.hid (show R = false by rw [HR2.out, decide_eq_false ht, Bool.false_and]); clear HR2; go_wp2_with fail; go_ret; exact ⟨by rw [HV.out]; rfl, K1.out.trans K3.out⟩
end Go.Proofs.YtkghgaopcgcheaaGreatDoor
