/- Parts of the proof of ErrandTries, in order. No conditions but those that each theorem states. -/
import Derived.Test.YtlhnjkekjbbhcaaGreatDoorYErrandTries0
import Derived.RangeFuncBound
import Derived.Shelf.Abstract
import Derived.Shelf.RegionOpen
import Derived.WalkKit
import Derived.OwnWalkIn
import Derived.TacticsInMore
import Derived.LoopNIn
import Derived.LoopIn
import Derived.Test.YtlhnjkekjbbhcaaGreatDoorYErrandTries21
set_option linter.unusedSimpArgs false
set_option linter.unusedVariables false
namespace Go.Proofs.YtlhnjkekjbbhcaaGreatDoor
open Go.RowKit Go.Shelf
attribute [local go_sem] Oper.semAt_some
theorem keepPut {S : List Nat} {w W : World} (h : Keep S w W) {l : Nat} (hl : w.heap.size ≤ l) (o : Obj) : Keep S w (W.putObj l o) :=
  ⟨h.os, h.tape, h.output, by simpa [World.putObj] using h.size, fun k hk hn => (World.putObj_heap_other (by omega)).trans (h.block k hk hn)⟩
theorem keepHeap {w W : World} (h : Keep [] w W) {k : Nat} {o : Obj} (hk : w.heap[k]? = some o) : W.heap[k]? = some o :=
  (h.block k (Array.getElem?_eq_some_iff.1 hk).1 (by simp)).trans hk
theorem keepOthers {w W : World} (h : Keep [] w W) : KeepsOthers w W := ⟨h.size, fun _ _ hk _ => keepHeap h hk⟩
theorem boxAt {W W' : World} {B : Nat} {t : TypeId} {v : Value} (h : Boxed W B t v) (k : Keep [] W W') : Boxed W' B t v := keepHeap k h
theorem boxPut {W : World} {B l : Nat} {t : TypeId} {v : Value} (h : Boxed W B t v) (hl : B ≠ l) (o : Obj) : Boxed (W.putObj l o) B t v := (World.putObj_heap_other hl).trans h
structure SpS (w : World) (rec : Loop) (r : List UInt8) (W : World) : Prop where
  kp : Keep [] w W
  rb : Boxed W w.heap.size 4 (.bool false)
  bs : Boxed W (w.heap.size + 1) 9 (.string (S r))
  bp : Boxed W (w.heap.size + 2) 9 (.string ⟨#[47]⟩)
  bv : Boxed W (w.heap.size + 3) 3 (.int .i64 0)
  dd : W.heap[w.heap.size + 4]? = some (.deferred (some []))
  ll : W.heap[w.heap.size + 5]? = some (.loop rec)
theorem SpS.keep0 {w W W' : World} {rec : Loop} {r : List UInt8} (h : SpS w rec r W) (k : Keep [] W W') : SpS w rec r W' :=
  ⟨h.kp.trans k, boxAt h.rb k, boxAt h.bs k, boxAt h.bp k, boxAt h.bv k, keepHeap k h.dd, keepHeap k h.ll⟩
theorem SpS.put {w W : World} {rec rec' : Loop} {r : List UInt8} (h : SpS w rec r W) : SpS w rec' r (W.putObj (w.heap.size + 5) (.loop rec')) :=
  ⟨keepPut h.kp (by omega) _, boxPut h.rb (by omega) _, boxPut h.bs (by omega) _, boxPut h.bp (by omega) _, boxPut h.bv (by omega) _, (World.putObj_heap_other (by omega)).trans h.dd, World.putObj_heap_same (Array.getElem?_eq_some_iff.1 h.ll).1⟩
theorem SpS.next {w W : World} {rec : Loop} {r : List UInt8} (h : SpS w rec r W) (r' : List UInt8) : SpS w rec r' (W.setCell ⟨w.heap.size + 1, 0, none⟩ (.string (S r'))) :=
  ⟨h.kp.trans' ((Keep.refl [w.heap.size + 1] W).setCell _ _ (by simp)) (fun x hx hlt => by have h1 : x = w.heap.size + 1 := (by simpa using hx); omega),
    h.rb.other (by omega) _, h.bs.set _, h.bp.other (by omega) _, h.bv.other (by omega) _, (KeepsOthers.setCell W _ _).same _ _ h.dd rfl, (KeepsOthers.setCell W _ _).same _ _ h.ll rfl⟩
def spLeft (b : Nat) (W : World) : Nat := match W.cell? ⟨b, 0, none⟩ with
  | some (.string s) => s.size
  | _ => 0
theorem spLeft_eq {w W : World} {rec : Loop} {r : List UInt8} (h : SpS w rec r W) : spLeft (w.heap.size + 1) W = r.length := by
  unfold spLeft; rw [h.bs.cell]; exact S_size r
theorem slash_end {k : Nat} {r : List UInt8} (h : Lib.indexByte r 47 = -1) : slashF k r = [r] := by
  cases k with
  | zero => rfl
  | succ k => show (if _ then _ else _) = _; rw [if_pos h]
theorem slash_more {k : Nat} {r : List UInt8} {i : Nat} (h : Lib.indexByte r 47 = (i : Nat)) (hk : r.length ≤ k) : slashF k r = r.take i :: slashF (k - 1) (r.drop (i + 1)) ∧ i < r.length := by
  have hlt : i < r.length := by
    have := (Lib.indexByte_some h).1; exact (List.getElem?_eq_some_iff.1 this).1
  cases k with
  | zero => omega
  | succ k =>
    refine ⟨?_, hlt⟩; show (if _ then _ else _) = _; rw [if_neg (by rw [h]; omega), h]; simp
set_option maxRecDepth 100000 in
set_option maxHeartbeats 4000000 in
theorem split_iter {w : World} {rec : Loop} {Rx : World → Prop} {n : Nat} (s : List UInt8) (hs : s.length ≤ 128)
    (hY : ∀ r x W, x.length ≤ 128 → SpS w rec r W → YieldAt Fence.wide n Tryz.prog (w.heap.size + 5) #[.string (S x)] W fun e W' => (e = .returned (.bool true) ∧ isPartM x = true ∧ SpS w rec r W') ∨ (e = .returned (.bool false) ∧ isPartM x = false ∧ Rx W'))
    (W : World) (h : SpS w rec s W) :
    CallsIn Fence.wide (n + 1) Tryz.prog 179 #[.func (.yield (w.heap.size + 5)) #[] #[], .pointer (some ⟨w.heap.size + 2, 0, none⟩), .pointer (some ⟨w.heap.size + 1, 0, none⟩), .pointer (some ⟨w.heap.size + 3, 0, none⟩)] W fun e W2 =>
      (∃ v, e = .returned v) ∧ (((slashF s.length s).all isPartM = true ∧ ∃ r, SpS w rec r W2) ∨ ((slashF s.length s).all isPartM = false ∧ Rx W2)) := by
  have h0 := h.bp.cell; refine callsIn_of_wp Tryz.func179 rfl trivial ?_ rfl; simp only [Tryz.ntmps179, List.size_toArray, List.length_cons, List.length_nil, Nat.reduceAdd, Nat.reduceSub, Array.replicate_succ, Array.replicate_zero, List.push_toArray, List.append_toArray, List.nil_append, List.cons_append]; have h1 := h.bs.cell; have H := Lib.hid h; clear h; gi_wp2
  gi_loopw [7] (fun iv wr => ∃ (k : Nat) (r : List UInt8), r.length ≤ k ∧ r.length ≤ 128 ∧ Hid ((slashF s.length s).all isPartM = (slashF k r).all isPartM) ∧ Hid (SpS w rec r wr))
    (fun iv wr => spLeft (w.heap.size + 1) wr)
  case atStart => exact ⟨s.length, s, Nat.le_refl _, hs, Lib.hid rfl, H⟩
  case round =>
    obtain ⟨k, r, hk, hr, HE, HS⟩ := hrel; have sR := S_size r; have c1 := HS.out.bs.cell; have c2 := HS.out.bp.cell; have c3 := HS.out.bv.cell; have hI := fun w' => Tryz.strings_Index_one (S r) 47 w'
    rw [S_list] at hI; have hge := Lib.indexByte_ge r 47; by_cases hi : Lib.indexByte r 47 = -1
    · rw [hi] at hI; have HI := Lib.hid hI; have HE2 := Lib.hid (show (slashF s.length s).all isPartM = isPartM r by rw [HE.out, slash_end hi]; simp); obtain ⟨fn, tmps, assign, body, hy, hR⟩ := hY r r wr hr HS.out; have HR := Lib.hid hR; clear hI hi hge hR hY
      gi_wp2_with (refine ⟨trivial, ?_⟩; gi_at_call 181; refine (callsIn_wide.2 (HI.out _)).mono ?_; rintro e w' ⟨rfl, rfl⟩)
      refine HR.out.mono ?_; rintro e W3 (⟨rfl, hp, hs3⟩ | ⟨rfl, hp, hx3⟩)
      · gi_wp2; go_end0; exact ⟨⟨_, rfl⟩, .inl ⟨by rw [HE2.out, hp], r, hs3⟩⟩
      · gi_wp2; go_end0; exact ⟨⟨_, rfl⟩, .inr ⟨by rw [HE2.out, hp], hx3⟩⟩
    · obtain ⟨i, hii⟩ : ∃ i : Nat, Lib.indexByte r 47 = i := ⟨(Lib.indexByte r 47).toNat, by omega⟩
      rw [hii] at hI; have HI := Lib.hid hI; obtain ⟨hsl, hlt⟩ := slash_more hii hk; have HE2 := Lib.hid (show (slashF s.length s).all isPartM = (isPartM (r.take i) && (slashF (k - 1) (r.drop (i + 1))).all isPartM) by rw [HE.out, hsl]; rfl); obtain ⟨fn, tmps, assign, body, hy, hR⟩ := hY r (r.take i) wr (by rw [List.length_take]; omega) HS.out; have HR := Lib.hid hR; have i0 : (0 : Int) ≤ (i : Int) := by omega
      have i1 : (i : Int) ≤ (r.length : Int) := by omega
      have wi := IntWalk.i64_in (i : Int) (by omega); have x1 : (S r).extract 0 i = S (r.take i) := by rw [S_extract]; simp
      have i2 : (0 : Int) ≤ (i : Int) + 1 := by omega
      have i3 : (i : Int) + 1 ≤ (r.length : Int) := by omega
      have wi2 := IntWalk.i64_in ((i : Int) + 1) (by omega); have x2 : (S r).extract (i + 1) r.length = S (r.drop (i + 1)) := by rw [S_extract, List.take_length]
      have n1 : ((i : Int) + 1).toNat = i + 1 := by omega
      clear hI hi hii hge hR hY hsl
      gi_wp2_with (refine ⟨trivial, ?_⟩; gi_at_call 181; refine (callsIn_wide.2 (HI.out _)).mono ?_; rintro e w' ⟨rfl, rfl⟩)
      refine HR.out.mono ?_; rintro e W3 (⟨rfl, hp, hs3⟩ | ⟨rfl, hp, hx3⟩)
      · have c1 := hs3.bs.cell; have f1 := hs3.bs.frozen; have c2 := hs3.bp.cell; have HS3 := Lib.hid hs3; have HP := Lib.hid hp; clear hs3 hp; gi_wp2
        go_roundw
        case rel => exact ⟨k - 1, r.drop (i + 1), by rw [List.length_drop]; omega, by rw [List.length_drop]; omega, Lib.hid (by rw [HE2.out, HP.out]; rfl), Lib.hid (HS3.out.next _)⟩
        case measure => rw [spLeft_eq (HS3.out.next _), spLeft_eq HS.out, List.length_drop]; omega
      · gi_wp2; refine bodyPost_ret (results_none rfl _ _ _) rfl ?_; exact ⟨⟨_, rfl⟩, .inr ⟨by rw [HE2.out, hp]; rfl, hx3⟩⟩
set_option maxRecDepth 100000 in
theorem splitSeq_made (s : List UInt8) (w : World) : Calls Tryz.prog 145 #[.string (S s), .string ⟨#[47]⟩, .int .i64 0] w fun e w' =>
    e = .returned (.func (.func 179) #[] #[.pointer (some ⟨w.heap.size + 1, 0, none⟩), .pointer (some ⟨w.heap.size, 0, none⟩), .pointer (some ⟨w.heap.size + 2, 0, none⟩)]) ∧
      w' = ((w.alloc (.cells #[.string (S s)] 9)).alloc (.cells #[.string ⟨#[47]⟩] 9)).alloc (.cells #[.int .i64 0] 3) := by
  go_enter Tryz.func145, Tryz.ntmps145; go_wp2_with fail; go_ret; exact ⟨rfl, rfl⟩
set_option maxRecDepth 100000 in
theorem SplitSeq_made (s : List UInt8) (w : World) : Calls Tryz.prog 95 #[.string (S s), .string ⟨#[47]⟩] w fun e w' =>
    e = .returned (.func (.func 179) #[] #[.pointer (some ⟨w.heap.size + 1, 0, none⟩), .pointer (some ⟨w.heap.size, 0, none⟩), .pointer (some ⟨w.heap.size + 2, 0, none⟩)]) ∧
      w' = ((w.alloc (.cells #[.string (S s)] 9)).alloc (.cells #[.string ⟨#[47]⟩] 9)).alloc (.cells #[.int .i64 0] 3) := by
  have H := Lib.hid (splitSeq_made s w); go_enter Tryz.func95, Tryz.ntmps95; go_wp2_with fail; refine H.out.mono ?_; rintro e w1 ⟨rfl, rfl⟩; go_wp2_with fail; go_ret; exact ⟨rfl, rfl⟩
structure SpX (w w2 : World) (a : Act) (ps : Array Tmp) (assign body : Code) (fn : FuncId) (W : World) : Prop where
  kp : Keep [] w W
  rb : Boxed W w.heap.size 4 (.bool false)
  dd : W.heap[w.heap.size + 4]? = some (.deferred (some []))
  ll : W.heap[w.heap.size + 5]? = some (.loop (rfDone w2 a ps assign body fn))
theorem SpS.busy {w W : World} {rec : Loop} {r : List UInt8} (h : SpS w rec r W) : SpS w { rec with state := .busy } r (rfBusy W (w.heap.size + 5) rec) := h.put
theorem SpS.on {w W : World} {rec rec' : Loop} {r : List UInt8} (h : SpS w rec' r W) (hr : { rec with state := .ready, pending := none } = rec) : SpS w rec r (rfOn W (w.heap.size + 5) rec) := by
  unfold rfOn; rw [hr]; exact h.put
theorem SpX.of {w w2 W : World} {rec' : Loop} {r : List UInt8} {a : Act} {ps : Array Tmp} {assign body : Code} {fn : FuncId} (h : SpS w rec' r W) : SpX w w2 a ps assign body fn (rfOff W (w.heap.size + 5) (rfRec w2 a ps assign body fn)) :=
  ⟨keepPut h.kp (by omega) _, boxPut h.rb (by omega) _, (World.putObj_heap_other (by omega)).trans h.dd, World.putObj_heap_same (Array.getElem?_eq_some_iff.1 h.ll).1⟩
theorem SpS.ended {w W : World} {rec : Loop} {r : List UInt8} (h : SpS w rec r W) : SpS w { rec with state := .exhausted } r (rfEnd W (w.heap.size + 5) rec) := h.put
theorem SpX.ended {w w2 W : World} {a : Act} {ps : Array Tmp} {assign body : Code} {fn : FuncId} (h : SpX w w2 a ps assign body fn W) : (rfEnd W (w.heap.size + 5) (rfDone w2 a ps assign body fn)).heap[w.heap.size + 4]? = some (.deferred (some [])) ∧ Boxed (rfEnd W (w.heap.size + 5) (rfDone w2 a ps assign body fn)) w.heap.size 4 (.bool false) ∧ Keep [] w (rfEnd W (w.heap.size + 5) (rfDone w2 a ps assign body fn)) :=
  ⟨(World.putObj_heap_other (by omega)).trans h.dd, boxPut h.rb (by omega) _, keepPut h.kp (by omega) _⟩
theorem SpS.resF {w W : World} {rec : Loop} {r : List UInt8} (h : SpS w rec r W) : SpS w rec r (W.setCell ⟨w.heap.size, 0, none⟩ (.bool false)) :=
  ⟨h.kp.trans' ((Keep.refl [w.heap.size] W).setCell _ _ (by simp)) (fun x hx hlt => by have h1 : x = w.heap.size := (by simpa using hx); omega),
    h.rb.set _, h.bs.other (by omega) _, h.bp.other (by omega) _, h.bv.other (by omega) _, (KeepsOthers.setCell W _ _).same _ _ h.dd rfl, (KeepsOthers.setCell W _ _).same _ _ h.ll rfl⟩
set_option maxRecDepth 100000 in
theorem split_range {g : Operand} {ps : Array Tmp} {assign body : Code} {Q : Exit → Act → World → Prop} {a : Act} {w w2 : World} (s : List UInt8) (hs : s.length ≤ 128)
    (hg : a.eval g = .func (.func 179) #[] #[.pointer (some ⟨w.heap.size + 2, 0, none⟩), .pointer (some ⟨w.heap.size + 1, 0, none⟩), .pointer (some ⟨w.heap.size + 3, 0, none⟩)])
    (hk : Keep [] w w2) (hsz : w2.heap.size = w.heap.size + 4) (b0 : Boxed w2 w.heap.size 4 (.bool false)) (b1 : Boxed w2 (w.heap.size + 1) 9 (.string (S s))) (b2 : Boxed w2 (w.heap.size + 2) 9 (.string ⟨#[47]⟩)) (b3 : Boxed w2 (w.heap.size + 3) 3 (.int .i64 0))
    (hround : ∀ fn r x W, x.length ≤ 128 → SpS w (rfRec w2 a ps assign body fn) r W → YieldAt Fence.wide 1 Tryz.prog (w.heap.size + 5) #[.string (S x)] W fun e W' => (e = .returned (.bool true) ∧ isPartM x = true ∧ SpS w (rfRec w2 a ps assign body fn) r W') ∨ (e = .returned (.bool false) ∧ isPartM x = false ∧ SpX w w2 a ps assign body fn W'))
    (hdone : ∀ fn r W, (slashF s.length s).all isPartM = true → SpS w (rfRec w2 a ps assign body fn) r W → Q .normal (rfMark w2 a) (rfEnd W (w.heap.size + 5) (rfRec w2 a ps assign body fn)))
    (hstop : ∀ fn W, (slashF s.length s).all isPartM = false → SpX w w2 a ps assign body fn W → Code.ret.wpIn Fence.wide 3 Tryz.prog Q (rfMark w2 a) (rfEnd W (w.heap.size + 5) (rfDone w2 a ps assign body fn))) :
    (Code.rangeFunc g ps assign body).wpIn Fence.wide 3 Tryz.prog Q a w2 := by
  refine rf_range rfl (by omega) hg trivial (enters_of Tryz.func179 (by kernel_rfl) rfl) ?_; intro fn _; rw [hsz]; have hr := hround fn; have hd := hdone fn; have hst := hstop fn; generalize hrec : rfRec w2 a ps assign body fn = rec at *
  have hS : SpS w rec s (rfStart w2 rec) := by
    have k1 : Keep [] w2 (rfStart w2 rec) := ((Keep.refl [] w2).alloc _).alloc _; refine ⟨hk.trans k1, boxAt b0 k1, boxAt b1 k1, boxAt b2 k1, boxAt b3 k1, ?_, ?_⟩
    · have h1 := World.alloc_heap_new w2 (.deferred (some [])); rw [hsz] at h1; exact keepHeap ((Keep.refl [] (w2.alloc (.deferred (some [])))).alloc (.loop rec)) h1
    · have h1 := World.alloc_heap_new (w2.alloc (.deferred (some []))) (.loop rec); rw [World.size_alloc, hsz] at h1; exact h1
  refine (split_iter (n := 1) s hs (fun r x W hx h => hr r x W hx h) _ hS).mono ?_; rintro e W2 ⟨hv, ⟨hall, r, h⟩ | ⟨hall, h⟩⟩
  · exact ⟨hv, .inl ⟨h.ll, hd r W2 hall h⟩⟩
  · exact ⟨hv, .inr ⟨h.ll, hst W2 hall h⟩⟩
set_option maxRecDepth 100000 in
set_option maxHeartbeats 4000000 in
theorem place_IsRepo (HP : ∀ (l : List UInt8) (w : World), l.length ≤ 128 → Calls Tryz.prog 96 #[.string (S l)] w fun e w' => e = .returned (.bool (isPartM l)) ∧ Keep [] w w')
    (s : List UInt8) (w : World) (hs : s.length ≤ maxLen) :
    Calls Tryz.prog 55 #[.string (S s)] w fun e w' => e = .returned (.bool (isRepoM s)) ∧ Keep [] w w' := by
  have hs' : s.length ≤ 9223372036854775807 := hs; have sS := S_size s; refine (callsIn_wide (n := 3)).1 ?_; refine callsIn_of_wp_marks Tryz.func55 rfl trivial ?_ rfl; simp only [Tryz.ntmps55, List.size_toArray, List.length_cons, List.length_nil, Nat.reduceAdd, Nat.reduceSub, Array.replicate_succ, Array.replicate_zero, List.push_toArray, List.append_toArray, List.nil_append, List.cons_append]; by_cases hl : 128 < s.length
  · have q : decide ((s.length : Int) > 128) = true := by simp; omega
    have hR : isRepoM s = false := by unfold isRepoM; rw [decide_eq_false (by omega)]; rfl
    rw [hR]; clear hl hs hR; gi_wp2; have hc := (Boxed.new w 4 (.bool false)).cell; refine ⟨.bool false, ?_, rfl, (Keep.refl [] w).alloc _⟩; simp [results, Tryz.f55, go_sem, hc]
  · have q : decide ((s.length : Int) > 128) = false := by simp; omega
    have hR : isRepoM s = (slashF s.length s).all isPartM := by unfold isRepoM; rw [decide_eq_true (by omega)]; rfl
    rw [hR]; have HS2 := Lib.hid (fun w' => SplitSeq_made s w')
    gi_wp2_with (refine ⟨trivial, ?_⟩; gi_at_call 95; refine (callsIn_wide.2 (HS2.out _)).mono ?_; rintro e w' ⟨rfl, rfl⟩)
    have b0 : Boxed ((((w.alloc (.cells #[.bool false] 4)).alloc (.cells #[.string (S s)] 9)).alloc (.cells #[.string ⟨#[47]⟩] 9)).alloc (.cells #[.int .i64 0] 3)) w.heap.size 4 (.bool false) := (((Boxed.new w _ _).alloc _).alloc _).alloc _; have b1 := ((Boxed.new (w.alloc (.cells #[.bool false] 4)) 9 (.string (S s))).alloc (.cells #[.string ⟨#[47]⟩] 9)).alloc (.cells #[.int .i64 0] 3); have b2 := (Boxed.new ((w.alloc (.cells #[.bool false] 4)).alloc (.cells #[.string (S s)] 9)) 9 (.string ⟨#[47]⟩)).alloc (.cells #[.int .i64 0] 3); have b3 := Boxed.new (((w.alloc (.cells #[.bool false] 4)).alloc (.cells #[.string (S s)] 9)).alloc (.cells #[.string ⟨#[47]⟩] 9)) 3 (.int .i64 0); have hk : Keep [] w ((((w.alloc (.cells #[.bool false] 4)).alloc (.cells #[.string (S s)] 9)).alloc (.cells #[.string ⟨#[47]⟩] 9)).alloc (.cells #[.int .i64 0] 3)) := ((((Keep.refl [] w).alloc _).alloc _).alloc _).alloc _; have hsz : ((((w.alloc (.cells #[.bool false] 4)).alloc (.cells #[.string (S s)] 9)).alloc (.cells #[.string ⟨#[47]⟩] 9)).alloc (.cells #[.int .i64 0] 3)).heap.size = w.heap.size + 4 := by simp
    simp only [World.size_alloc] at b1 b2 b3; generalize (((w.alloc (.cells #[.bool false] 4)).alloc (.cells #[.string (S s)] 9)).alloc (.cells #[.string ⟨#[47]⟩] 9)).alloc (.cells #[.int .i64 0] 3) = w2 at *; refine split_range (w := w) s (by omega) rfl hk hsz b0 b1 b2 b3 ?round ?done ?stop
    case round =>
      intro fn r x W hx hS; refine rf_yield (a1 := ?a1) trivial hS.ll rfl rfl ?assign ?body
      case assign =>
        intro K hK; dsimp only [rfRec]; gi_wp2; exact hK
      case body =>
        have hp := HP x; have hB := hS.busy; dsimp only [rfRec] at hB ⊢; generalize hWB : rfBusy W (w.heap.size + 5) _ = WB at hB ⊢; have HB := Lib.hid hB
        cases hpm : isPartM x with
        | true =>
          have HPx := Lib.hid (fun w' => by have := hp w' hx; rwa [hpm] at this); clear hB hp HP hWB hsz
          gi_wp2_with (refine ⟨trivial, ?_⟩; gi_at_call 96; refine (CallsIn.inRound _ (callsIn_wide.2 (HPx.out _))).mono ?_; rintro e w' ⟨rfl, k⟩)
          exact ⟨keepOthers k, SpS.on (HB.out.keep0 k) rfl⟩
        | false =>
          have HPx := Lib.hid (fun w' => by have := hp w' hx; rwa [hpm] at this); clear hB hp HP hWB hsz
          gi_wp2_with (refine ⟨trivial, ?_⟩; gi_at_call 96; refine (CallsIn.inRound _ (callsIn_wide.2 (HPx.out _))).mono ?_; rintro e w' ⟨rfl, k⟩; have c0 := (HB.out.keep0 k).rb.cell; have f0 := (HB.out.keep0 k).rb.frozen)
          exact ⟨(keepOthers k).trans (KeepsOthers.setCell _ _ _), SpX.of (HB.out.keep0 k).resF⟩
    case done =>
      intro fn r W hall hS; have hE := hS.ended; have hdd := hE.dd; rw [← hsz] at hdd; generalize rfEnd W (w.heap.size + 5) _ = WE at hE hdd ⊢; have c0 := hE.rb.cell; have f0 := hE.rb.frozen; have HALL := Lib.hid hall; unfold rfMark; have hK' := (KeepsOthers.setCell WE ⟨w.heap.size, 0, none⟩ (.bool true)).same w2.heap.size _ hdd rfl; have hkp : Keep [] w ((WE.setCell ⟨w.heap.size, 0, none⟩ (.bool true)).putObj w2.heap.size (.deferred none)) := keepPut (hE.kp.trans' ((Keep.refl [w.heap.size] WE).setCell _ _ (by simp)) (fun x hx hlt => by have h1 : x = w.heap.size := (by simpa using hx); omega)) (by omega) _; have hc5 := cell_kept (World.cell?_setCell_same' WE ⟨w.heap.size, 0, none⟩ (.bool true) (by rw [c0]; rfl)) (grownBy_putObj' _ w2.heap.size (.deferred none)) (fun r e => by cases e; exact ⟨_, hK', rfl⟩); have HX := Lib.hid (And.intro hK' (And.intro hkp hc5)); clear hE hdd hK' hkp hc5 hall hsz HP; gi_wp2; refine ⟨by simp, .inl ⟨_, _, rfl, run_takeDeferred HX.out.1, ?_⟩⟩; have hc5 := HX.out.2.2; refine ⟨.bool true, ?_, by rw [HALL.out], HX.out.2.1⟩; simp [results, Tryz.f55, go_sem, hc5]
    case stop =>
      intro fn W hall hX; obtain ⟨hdd, hrb, hkp0⟩ := hX.ended; rw [← hsz] at hdd; generalize rfEnd W (w.heap.size + 5) _ = WE at hdd hrb hkp0 ⊢; have HALL := Lib.hid hall; unfold rfMark; have hkp : Keep [] w (WE.putObj w2.heap.size (.deferred none)) := keepPut hkp0 (by omega) _; have hc5 := cell_kept hrb.cell (grownBy_putObj' _ w2.heap.size (.deferred none)) (fun r e => by cases e; exact ⟨_, hdd, rfl⟩); have HX := Lib.hid (And.intro hdd (And.intro hkp hc5)); clear hX hdd hrb hkp0 hkp hc5 hall hsz HP; gi_wp2; refine ⟨by simp, .inl ⟨_, _, rfl, run_takeDeferred HX.out.1, ?_⟩⟩; have hc5 := HX.out.2.2; refine ⟨.bool false, ?_, by rw [HALL.out], HX.out.2.1⟩; simp [results, Tryz.f55, go_sem, hc5]
end Go.Proofs.YtlhnjkekjbbhcaaGreatDoor
