/- Parts of the proof of ChunkReads, in order. No conditions but those that each theorem states. -/
import Derived.Test.YtmfnciocnlmceaaDoorZChunkReads2
import Derived.WalkMore
import Derived.Lib.ItoaNum
import Derived.Lib.SlTrimSet
import Derived.Lib.SlBytesConst
import Derived.Lib.LaidTab
import Derived.Lib.ItoaLen
import Derived.Sort.Grow
import Derived.Deep.LoopGhost
import Derived.DeepKeys4
/- Layer 11: data, step. No conditions but on lengths. -/
namespace Go.Proofs.YtmfnciocnlmceaaDoor
open Go.RowKit Go.Shelf

theorem Bd.set {B b o : Nat} {T : TypeId} {cs : List Value} {v : Value} {l : List UInt8} {w : World} (h : Bd B w b o T cs v l) (k : Nat) (x : Value) (h1 : k ≠ o) (h2 : k ≠ o + 1) : Bd B (w.setCell ⟨b, k, none⟩ x) b o T (cs.set k x) v l := by
  refine ⟨h.blk.set k x, ?_, ?_, ?_, h.ne⟩
  · rw [List.getElem?_set_ne h1]; exact h.ad
  · rw [List.getElem?_set_ne h2]; exact h.buf
  · exact h.own.keep (S := [b]) ((Keep.refl _ _).setCell _ _ (by simp)) (fun g hg => by
      simp only [List.mem_singleton]
      rintro rfl
      exact h.ne hg)
/-- what a call on a reader leaves -/
def Aft (B : Nat) (w : World) (b : Nat) (p : List UInt8) (v : Value) (c' : Ck) (w' : World) : Prop := ∃ v', Ct B w' b p c' v' ∧ Keep (b :: v.ownBlock.toList) w w' ∧ (v'.ownBlock = v.ownBlock ∨ ∃ g, v'.ownBlock = some g ∧ w.heap.size ≤ g)
theorem Aft.of {B b : Nat} {w w' : World} {p : List UInt8} {v : Value} {c' : Ck} (h : Ct B w' b p c' v) (k : Keep [b] w w') : Aft B w b p v c' w' := ⟨v, h, k.mono (fun x hx _ => by simp at hx; simp [hx]), .inl rfl⟩
theorem Aft.trans {B b : Nat} {w w1 w2 : World} {p : List UInt8} {v v1 v2 : Value} {c1 c2 : Ck} (h : Ct B w1 b p c1 v1) (k : Keep (b :: v.ownBlock.toList) w w1) (hv : v1.ownBlock = v.ownBlock ∨ ∃ g, v1.ownBlock = some g ∧ w.heap.size ≤ g)
    (h2 : Ct B w2 b p c2 v2) (k2 : Keep (b :: v1.ownBlock.toList) w1 w2) (hv2 : v2.ownBlock = v1.ownBlock ∨ ∃ g, v2.ownBlock = some g ∧ w1.heap.size ≤ g) : Aft B w b p v c2 w2 := by
  refine ⟨v2, h2, k.trans' k2 (fun x hx hl => ?_), ?_⟩
  · rcases List.mem_cons.1 hx with rfl | hx
    · simp
    · rcases hv with e | ⟨g, e, hg⟩
      · rw [e] at hx; exact List.mem_cons_of_mem _ hx
      · rw [e] at hx
        have : x = g := by simpa using hx
        omega
  · rcases hv2 with e | ⟨g, e, hg⟩
    · rcases hv with e' | ⟨g, e', hg⟩
      · exact .inl (e.trans e')
      · exact .inr ⟨g, e.trans e', hg⟩
    · exact .inr ⟨g, e, Nat.le_trans k.size hg⟩

set_option maxRecDepth 100000 in
set_option maxHeartbeats 2000000 in
theorem chunk_data (B b : Nat) (p : List UInt8) (c : Ck) (v : Value) (w : World) (h : Ct B w b p c v) (hB : B ≤ w.heap.size) (hl : c.inp.length + c.dat.length ≤ 1048576) (hleft : (c.left : Int) ≤ 9223372036854775807) :
    Calls Tryd.prog 89 #[.pointer (some ⟨b, 0, none⟩)] w fun e w' => e = .returned (.int .i64 (dataM c).2) ∧ Aft B w b p v (dataM c).1 w' := by
  have sz := S_size c.inp
  obtain ⟨_, c1, _, _, c4, _, _⟩ := h.at
  have hmin : min ((c.left : Nat) : Int) ((c.inp.length : Nat) : Int) = ((min c.left c.inp.length : Nat) : Int) := by omega
  have hd := data_eq c _ rfl
  have hn1 : min c.left c.inp.length ≤ c.left := Nat.min_le_left _ _
  have hn2 : min c.left c.inp.length ≤ c.inp.length := Nat.min_le_right _ _
  generalize min c.left c.inp.length = n at *
  obtain ⟨ad, o, hbd, hdo⟩ := h
  have ho : o.length ≤ c.dat.length := by rw [hdo]; simp
  have H := Lib.hid hbd
  have HB := Lib.hid hB
  have HD := Lib.hid hd
  have HDO := Lib.hid hdo
  clear hd hdo hbd hB
  have hx1 : (S c.inp).extract 0 n = S (c.inp.take n) := by rw [S_extract, List.drop_zero]
  have hx2 : (S c.inp).extract n c.inp.length = S (c.inp.drop n) := by rw [S_extract, List.take_length]
  have lt : (c.inp.take n).length = n := by rw [List.length_take]; omega
  have i0 : (0 : Int) ≤ (n : Int) := by omega
  have i1 : (n : Int) ≤ (c.inp.length : Int) := by omega
  go_enter Tryd.func89, Tryd.ntmps89
  go_upto_region 1 with fail
  go_cut [3] (fun y wx => y = .int .i64 (n : Nat) ∧ Hid (Keep [] w wx))
  case first =>
    go_region_with fail
    all_goals
      go_wp2_with fail
      go_meet
      exact ⟨rfl, Lib.hid (by repeat (first | exact Keep.refl _ _ | apply Keep.drew))⟩
  case rest =>
  obtain ⟨rfl, KX⟩ := hcut
  have H1 := Lib.hid (H.out.keep KX.out (by simp) (by simp))
  have K1 := Lib.hid KX.out
  clear c1 c4 hmin KX
  have c4 := H1.out.blk.get (k := 4) rfl
  have HW := Lib.hid (fun w2 (k2 : Keep [] wc w2) => bld_Write (c.inp.take n) (H1.out.keep k2 (by simp) (by simp)) ck_lies (Nat.le_trans (Nat.le_trans HB.out K1.out.size) k2.size) (by rw [lt]; omega))
  go_upto_region 2 with fail
  go_cut [] (fun wx => Hid (∃ v', Bd B wx b 5 87 (ckC c (.pointer (some ⟨b, 5, none⟩)) v') v' (o ++ c.inp.take n) ∧ Keep (b :: v.ownBlock.toList) w wx ∧ (v'.ownBlock = v.ownBlock ∨ ∃ g, v'.ownBlock = some g ∧ w.heap.size ≤ g)))
  case first =>
    go_region_with (first
      | (go_at_call 62; refine (HW.out _ (by repeat (first | exact Keep.refl _ _ | apply Keep.drew))).mono ?_; rintro e w2 ⟨rfl, v', hb', hk', hv'⟩; have HX := Lib.hid (And.intro hb' (And.intro hk' hv')); clear hb' hk' hv')
      | fail)
    all_goals
      go_wp2_with fail
      go_meet
      refine Lib.hid ?_
      obtain ⟨hb', hk', hv'⟩ := HX.out
      refine ⟨v', ?_, ?_, ?_⟩
      · exact hb'
      · refine Keep.trans' (Keep.mono (S' := b :: v.ownBlock.toList) (S := []) ?_ (by simp)) hk' (fun x hx _ => hx)
        repeat (first | exact K1.out | apply Keep.drew)
      · rcases hv' with e | ⟨g, e, hg⟩
        · exact .inl e
        · exact .inr ⟨g, e, Nat.le_trans K1.out.size hg⟩
  case rest =>
  have HC := hcut
  clear hcut H1 K1 c4 HW hx1
  obtain ⟨v', hb, hk, hv⟩ := HC.out
  have HN := Lib.hid (And.intro hb (And.intro hk hv))
  have c1 := hb.blk.get (k := 1) rfl
  have c4 := hb.blk.get (k := 4) rfl
  have c7 := hb.blk.get (k := 7) rfl
  have c0 := hb.blk.get (k := 0) rfl
  have f1 := hb.blk.frozen 1
  have f4 := hb.blk.frozen 4
  have f7 := hb.blk.frozen 7
  have f0 := hb.blk.frozen 0
  have w2 := IntWalk.i64_in ((c.dat.length : Int) + (n : Int)) (by omega)
  have ld : (c.dat ++ c.inp.take n).length = c.dat.length + n := by rw [List.length_append, lt]
  clear hb hk hv HC
  have e1 : ((c.left : Int) - (n : Int)) = ((c.left - n : Nat) : Int) := by omega
  have e7 : ((c.dat.length : Int) + (n : Int)) = ((c.dat.length + n : Nat) : Int) := by omega
  have hdat : c.dat ++ c.inp.take n = p ++ (o ++ c.inp.take n) := by rw [HDO.out, List.append_assoc]
  generalize hlf : c.left - n = lf at *
  have w1 := IntWalk.i64_in ((lf : Nat) : Int) (by omega)
  have HE := Lib.hid (And.intro e1 (And.intro e7 (And.intro ld hdat)))
  clear e7 ld hdat hlf
  by_cases h0 : 0 < lf
  · have hd := HD.out
    rw [if_pos h0] at hd
    have HF := Lib.hid hd
    have h0' : decide ((lf : Int) > 0) = true := by simp; omega
    clear hd HD
    go_wp2_with fail
    go_ret
    rw [HF.out]
    try rw [HE.out.2.1, ← HE.out.2.2.1]
    refine ⟨rfl, v', ⟨.pointer (some ⟨b, 5, none⟩), o ++ c.inp.take n, ?_, HE.out.2.2.2⟩, ((HN.out.2.1.setCell _ _ (by simp)).setCell _ _ (by simp)).setCell _ _ (by simp), HN.out.2.2⟩
    have := ((HN.out.1.set 4 (.string (S (c.inp.drop n))) (by omega) (by omega)).set 1 (.int .i64 ((lf : Nat) : Int)) (by omega) (by omega)).set 7 (.int .i64 ((c.dat.length : Int) + (n : Int))) (by omega) (by omega)
    rw [HE.out.2.1, ← HE.out.2.2.1] at this
    exact this
  · have hd := HD.out
    rw [if_neg h0] at hd
    have HF := Lib.hid hd
    have h0' : decide ((lf : Int) > 0) = false := by simp; omega
    clear hd HD
    go_wp2_with fail
    go_ret
    rw [HF.out]
    try rw [HE.out.2.1, ← HE.out.2.2.1]
    refine ⟨rfl, v', ⟨.pointer (some ⟨b, 5, none⟩), o ++ c.inp.take n, ?_, HE.out.2.2.2⟩, (((HN.out.2.1.setCell _ _ (by simp)).setCell _ _ (by simp)).setCell _ _ (by simp)).setCell _ _ (by simp), HN.out.2.2⟩
    have := (((HN.out.1.set 4 (.string (S (c.inp.drop n))) (by omega) (by omega)).set 1 (.int .i64 ((lf : Nat) : Int)) (by omega) (by omega)).set 7 (.int .i64 ((c.dat.length : Int) + (n : Int))) (by omega) (by omega)).set 0 (.int .i64 2) (by omega) (by omega)
    rw [HE.out.2.1, ← HE.out.2.2.1] at this
    exact this

set_option maxRecDepth 100000 in
set_option maxHeartbeats 2000000 in
theorem chunk_step (B b : Nat) (p : List UInt8) (c : Ck) (v : Value) (w : World) (hm : ML w) (hb : 0 ≠ b) (h : Ct B w b p c v) (hB : B ≤ w.heap.size) (hl : c.inp.length + c.dat.length ≤ 1048576) (hmost : (c.most : Int) ≤ 9223372036854775807) (hok : c.ok) :
    Calls Tryd.prog 59 #[.pointer (some ⟨b, 0, none⟩)] w fun e w' => e = .returned (.int .i64 (stepM c).2) ∧ Aft B w b p v (stepM c).1 w' := by
  obtain ⟨k1, k2, k3⟩ := hok
  obtain ⟨c0, _⟩ := h.at
  have hs : stepM c = if c.st = 0 then beginM c else if c.st = 1 then dataM c else if c.st = 2 then closeM c else if c.st = 3 then trailM c else (c, 17) := rfl
  by_cases h0 : c.st = 0
  · have HC := Lib.hid (chunk_begin B b p c v w hm hb h (by omega) hmost (by omega))
    rw [if_pos h0] at hs
    have HS := Lib.hid hs
    rw [h0] at c0
    clear hs h
    go_enter Tryd.func59, Tryd.ntmps59
    go_wp2_with fail
    refine HC.out.mono ?_
    rintro e w1 ⟨rfl, hx, hk⟩
    have HX := Lib.hid (Aft.of hx hk)
    clear hx hk
    go_wp2_with fail
    go_ret
    rw [HS.out]
    exact ⟨rfl, HX.out⟩
  by_cases h1 : c.st = 1
  · have HC := Lib.hid (chunk_data B b p c v w h hB hl (by omega))
    rw [if_neg h0, if_pos h1] at hs
    have HS := Lib.hid hs
    rw [h1] at c0
    clear hs h
    go_enter Tryd.func59, Tryd.ntmps59
    go_wp2_with fail
    refine HC.out.mono ?_
    rintro e w1 ⟨rfl, hx⟩
    have HX := Lib.hid hx
    clear hx
    go_wp2_with fail
    go_ret
    rw [HS.out]
    exact ⟨rfl, HX.out⟩
  by_cases h2 : c.st = 2
  · have HC := Lib.hid (chunk_close B b p c v w h (by omega))
    rw [if_neg h0, if_neg h1, if_pos h2] at hs
    have HS := Lib.hid hs
    rw [h2] at c0
    clear hs h
    go_enter Tryd.func59, Tryd.ntmps59
    go_wp2_with fail
    refine HC.out.mono ?_
    rintro e w1 ⟨rfl, hx, hk⟩
    have HX := Lib.hid (Aft.of hx hk)
    clear hx hk
    go_wp2_with fail
    go_ret
    rw [HS.out]
    exact ⟨rfl, HX.out⟩
  by_cases h3 : c.st = 3
  · have HC := Lib.hid (chunk_trailer B b p c v w hm hb h (by omega) k2)
    rw [if_neg h0, if_neg h1, if_neg h2, if_pos h3] at hs
    have HS := Lib.hid hs
    rw [h3] at c0
    clear hs h
    go_enter Tryd.func59, Tryd.ntmps59
    go_wp2_with fail
    refine HC.out.mono ?_
    rintro e w1 ⟨rfl, hx, hk⟩
    have HX := Lib.hid (Aft.of hx hk)
    clear hx hk
    go_wp2_with fail
    go_ret
    rw [HS.out]
    exact ⟨rfl, HX.out⟩
  · have h4 : c.st = 4 := by omega
    rw [if_neg h0, if_neg h1, if_neg h2, if_neg h3] at hs
    have HS := Lib.hid hs
    have HX := Lib.hid h
    rw [h4] at c0
    clear hs h
    go_enter Tryd.func59, Tryd.ntmps59
    go_wp2_with fail
    go_ret
    rw [HS.out]
    exact ⟨rfl, Aft.of HX.out (Keep.refl _ _)⟩
end Go.Proofs.YtmfnciocnlmceaaDoor

/- Layer 11: a builder that lies in another struct: String, Reset; a reader's New, Add, Take, Done, Rest, Size. No conditions but on lengths. -/
namespace Go.Proofs.YtmfnciocnlmceaaDoor
open Go.RowKit Go.Shelf

theorem keep_freeze {S : List Nat} {w w' : World} (h : Keep S w w') {p : Addr} (hp : p.block ∈ S) (n : Nat) : Keep S w (w'.freeze p n) := by
  refine h.trans ?_
  unfold World.freeze
  split
  · exact Keep.refl _ _
  · exact ⟨rfl, rfl, rfl, by simp, fun k hk hn => by
      simp only [Array.getElem?_modify]
      rw [if_neg (fun e => hn (by rw [← e]; exact hp))]⟩

set_option maxHeartbeats 8000000 in
set_option maxRecDepth 100000 in
theorem bld_String {B b o : Nat} {T : TypeId} {cs : List Value} {v : Value} {l : List UInt8} {w : World} (h : Bd B w b o T cs v l) :
    Calls Tryd.prog 60 #[.pointer (some ⟨b, o, none⟩)] w fun e w' => e = .returned (.string (S l)) ∧ Keep v.ownBlock.toList w w' := by
  have hown := h.own
  unfold Own at hown
  rw [rows_bytes] at hown
  have hu : Tryd.prog.underlying 112 = some (.pointer 5) := Tryd.underlying112
  have mixed : Tryd.prog.follows .mixedOrders = true := by kernel_rfl
  have c0 : w.cell? ⟨b, o + 1, none⟩ = some v := h.blk.get h.buf
  have c1 : w.drew.cell? ⟨b, o + 1, none⟩ = some v := c0
  rcases hown.2 with ⟨hv, hz⟩ | ⟨g, cap, cur, hv, hbg, hg, hnc, hcm, hcs, htake⟩
  · have hl0 : l = [] := List.eq_nil_of_length_eq_zero hz
    subst hv hl0
    have hUS := fun (W : World) (q : Option Addr) => Lib.run_unsafeString_none (P := Tryd.prog) W 112 3 9 q
    have hSD : (Builtin.unsafeSliceData_ #[83] 112 #[.slice none 0 0]).run Tryd.prog w.drew = .ok (.pointer none) w.drew := rfl
    clear hown h
    go_enter Tryd.func60, Tryd.ntmps60
    go_wp2_with fail
    go_region_o
    all_goals (go_wp2; go_ret; exact ⟨rfl, (Keep.refl _ _).drew⟩)
  · have hk := hown.cells (g := g)
    subst hv
    by_cases hl0 : l = []
    · subst hl0
      have hUS := fun (W : World) (q : Option Addr) => Lib.run_unsafeString_none (P := Tryd.prog) W 112 3 9 q
      by_cases hc0 : cap = 0
      · subst hc0
        have hbl := h.blk.lt
        have hSD : (Builtin.unsafeSliceData_ #[83] 112 #[.slice (some ⟨g, 0, none⟩) 0 0]).run Tryd.prog w.drew = .ok (.pointer (some ⟨w.drew.heap.size, 0, none⟩)) (w.drew.alloc (.view ⟨g, 0, none⟩ 5)) :=
          Lib.run_unsafeSliceData_zero w.drew _ _ 5 hu ⟨g, 0, none⟩ 0 (5, cur.size) (by have hg' : w.drew.heap[g]? = some (.cells cur 5 (0, 0)) := hg; simp [World.shape?, hg'])
        have c2 : (w.drew.alloc (.view ⟨g, 0, none⟩ 5)).cell? ⟨b, o + 1, none⟩ = some (.slice (some ⟨g, 0, none⟩) 0 0) := ((((Keep.refl [] w).drew).alloc _).blk h.blk (by simp)).get h.buf
        have c3 : (w.alloc (.view ⟨g, 0, none⟩ 5)).drew.cell? ⟨b, o + 1, none⟩ = some (.slice (some ⟨g, 0, none⟩) 0 0) := c2
        clear hown h hk
        go_enter Tryd.func60, Tryd.ntmps60
        go_wp2_with fail
        go_region_o
        all_goals (go_wp2; go_ret; exact ⟨rfl, ((Keep.refl _ _).drew).alloc _⟩)
      · have hSD : (Builtin.unsafeSliceData_ #[83] 112 #[.slice (some ⟨g, 0, none⟩) 0 cap]).run Tryd.prog w.drew = .ok (.pointer (some ⟨g, 0, none⟩)) w.drew :=
          Lib.run_unsafeSliceData_row _ _ _ _ _ _ hc0
        clear hown h hk hc0
        go_enter Tryd.func60, Tryd.ntmps60
        go_wp2_with fail
        go_region_o
        all_goals (go_wp2; go_ret; exact ⟨rfl, (Keep.refl _ _).drew⟩)
    · have hll : l.length ≠ 0 := by simpa using hl0
      have hSD : (Builtin.unsafeSliceData_ #[83] 112 #[.slice (some ⟨g, 0, none⟩) l.length cap]).run Tryd.prog w.drew = .ok (.pointer (some ⟨g, 0, none⟩)) w.drew :=
        Lib.run_unsafeSliceData_row _ _ _ _ _ _ (by omega)
      have hUS : (Builtin.unsafeString_ #[112, 3] 9 #[.pointer (some ⟨g, 0, none⟩), .int .i64 l.length]).run Tryd.prog w.drew = .ok (.string (S l)) (w.drew.freeze ⟨g, 0, none⟩ l.length) := by
        refine Lib.run_unsafeString_row w.drew 112 3 9 5 hu (by kernel_rfl) g cur.size (by have hg' : w.drew.heap[g]? = some (.cells cur 5 (0, 0)) := hg; simp [World.shape?, hg']) l hl0 (by omega) (by unfold maxLen at hcm; omega) ?_
        intro j x hx
        have := hk rfl j (.int .u8 x.toNat) (by simp [Lib.byteCells, hx])
        exact this
      clear hown h hk hll hl0
      go_enter Tryd.func60, Tryd.ntmps60
      go_wp2_with fail
      go_region_o
      all_goals (go_wp2; go_ret; exact ⟨rfl, keep_freeze ((Keep.refl _ _).drew) (by simp [Value.ownBlock]) _⟩)

set_option maxHeartbeats 2000000 in
set_option maxRecDepth 100000 in
theorem bld_Reset {b o : Nat} {T : TypeId} {cs : List Value} {w : World} (h : Blk w b T cs) (ho : o + 1 < cs.length) :
    Calls Tryd.prog 61 #[.pointer (some ⟨b, o, none⟩)] w fun e w' => e = .returned (.tuple #[]) ∧ Blk w' b T ((cs.set o (.pointer none)).set (o + 1) (.slice none 0 0)) ∧ Keep [b] w w' := by
  obtain ⟨x, hx⟩ : ∃ x, cs[o]? = some x := ⟨_, List.getElem?_eq_getElem (by omega)⟩
  obtain ⟨y, hy⟩ : ∃ y, cs[o + 1]? = some y := ⟨_, List.getElem?_eq_getElem (by omega)⟩
  have c0 := h.get hx
  have f0 := h.frozen o
  have h1 := h.set o (.pointer none)
  have c1 := h1.get (k := o + 1) (v := y) (by rw [List.getElem?_set_ne (by omega)]; exact hy)
  have f1 := h1.frozen (o + 1)
  have H := Lib.hid (h1.set (o + 1) (.slice none 0 0))
  clear h h1
  go_enter Tryd.func61, Tryd.ntmps61
  go_wp2_with fail
  go_end0
  exact ⟨rfl, H.out, ((Keep.refl _ _).setCell _ _ (by simp)).setCell _ _ (by simp)⟩

def ck0 (most : Int) : Ck := ⟨0, 0, (max most 0).toNat, 0, [], [], 0⟩
theorem ck0_ok (m : Int) : (ck0 m).ok := ⟨by simp [ck0], by simp [ck0], by simp [ck0]⟩
set_option maxHeartbeats 2000000 in
set_option maxRecDepth 100000 in
theorem chunk_New (B : Nat) (m : Int) (w : World) (hB : B ≤ w.heap.size) :
    Calls Tryd.prog 25 #[.int .i64 m] w fun e w' => ∃ b, e = .returned (.pointer (some ⟨b, 0, none⟩)) ∧ w.heap.size ≤ b ∧ b < w'.heap.size ∧ Ct B w' b [] (ck0 m) (.slice none 0 0) ∧ Keep [] w w' := by
  have hmx : max m 0 = (((max m 0).toNat : Nat) : Int) := by omega
  have hbk := Blk.newA w (ckC (ck0 m) (.pointer none) (.slice none 0 0)).toArray 87
  have H := Lib.hid hbk
  have HM := Lib.hid hmx
  have hmx2 : max m 0 = ((ck0 m).most : Int) := hmx
  generalize hmm : (ck0 m).most = k at *
  clear hbk hmx
  go_enter Tryd.func25, Tryd.ntmps25
  go_wp2_with fail
  go_ret
  refine ⟨w.heap.size, rfl, Nat.le_refl _, by simp, ⟨.pointer none, [], ⟨?_, .inl rfl, rfl, Own.nil _ _ _ _ _, by simp [Value.ownBlock]⟩, rfl⟩, (Keep.refl [] w).alloc _⟩
  have := H.out
  subst hmm
  exact this

set_option maxHeartbeats 1000000 in
set_option maxRecDepth 100000 in
theorem chunk_Done {B b : Nat} {p : List UInt8} {c : Ck} {v : Value} {w : World} (h : Ct B w b p c v) (_ : c.st ≤ 4) :
    Calls Tryd.prog 29 #[.pointer (some ⟨b, 0, none⟩)] w fun e w' => e = .returned (.bool (decide (c.st = 4))) ∧ w = w' := by
  obtain ⟨c0, _⟩ := h.at
  clear h
  by_cases h4 : c.st = 4
  · rw [h4] at c0
    go_enter Tryd.func29, Tryd.ntmps29
    go_wp2_with fail
    go_ret
    exact ⟨by simp [h4], rfl⟩
  · have h4' := (nat_ne (show c.st ≠ 4 from h4)).1
    have h5 := (int_ne (show ((c.st : Nat) : Int) ≠ 4 by omega)).1
    have h6 : decide (c.st = 4) = false := by simp [h4]
    have HF := Lib.hid h6
    generalize c.st = st at *
    go_enter Tryd.func29, Tryd.ntmps29
    go_wp2_with fail
    go_ret
    exact ⟨ret_bool (by simp [h4]), rfl⟩
set_option maxHeartbeats 1000000 in
set_option maxRecDepth 100000 in
theorem chunk_Rest {B b : Nat} {p : List UInt8} {c : Ck} {v : Value} {w : World} (h : Ct B w b p c v) (hs : c.st ≤ 4) :
    Calls Tryd.prog 30 #[.pointer (some ⟨b, 0, none⟩)] w fun e w' => e = .returned (.string (S (if c.st = 4 then c.inp else []))) ∧ w = w' := by
  have HD := Lib.hid (chunk_Done h hs)
  obtain ⟨_, _, _, _, c4, _, _⟩ := h.at
  clear h
  by_cases h4 : c.st = 4
  · rw [decide_eq_true h4] at HD
    rw [if_pos h4]
    go_enter Tryd.func30, Tryd.ntmps30
    go_wp2_with fail
    refine HD.out.mono ?_
    rintro e w1 ⟨rfl, rfl⟩
    go_wp2_with fail
    go_ret
    exact ⟨rfl, rfl⟩
  · rw [decide_eq_false h4] at HD
    rw [if_neg h4]
    go_enter Tryd.func30, Tryd.ntmps30
    go_wp2_with fail
    refine HD.out.mono ?_
    rintro e w1 ⟨rfl, rfl⟩
    go_wp2_with fail
    go_ret
    exact ⟨rfl, rfl⟩
set_option maxHeartbeats 1000000 in
set_option maxRecDepth 100000 in
theorem chunk_Size {B b : Nat} {p : List UInt8} {c : Ck} {v : Value} {w : World} (h : Ct B w b p c v) :
    Calls Tryd.prog 31 #[.pointer (some ⟨b, 0, none⟩)] w fun e w' => e = .returned (.int .i64 (c.dat.length : Nat)) ∧ w = w' := by
  obtain ⟨_, _, _, _, _, c7, _⟩ := h.at
  clear h
  go_enter Tryd.func31, Tryd.ntmps31
  go_wp2_with fail
  go_ret
  exact ⟨rfl, rfl⟩

set_option maxHeartbeats 2000000 in
set_option maxRecDepth 100000 in
theorem chunk_Take {B b : Nat} {p : List UInt8} {c : Ck} {v : Value} {w : World} (h : Ct B w b p c v) :
    Calls Tryd.prog 28 #[.pointer (some ⟨b, 0, none⟩)] w fun e w' => ∃ o, e = .returned (.string (S o)) ∧ c.dat = p ++ o ∧ Ct B w' b c.dat c (.slice none 0 0) ∧ Keep (b :: v.ownBlock.toList) w w' := by
  obtain ⟨ad, o, hb, hd⟩ := h
  have HS := Lib.hid (bld_String hb)
  have HB := Lib.hid hb
  have HD := Lib.hid hd
  clear hb hd
  go_enter Tryd.func28, Tryd.ntmps28
  go_wp2_with fail
  refine HS.out.mono ?_
  rintro e w1 ⟨rfl, k1⟩
  have hb1 : Blk w1 b 87 (ckC c ad v) := k1.blk HB.out.blk (by
    intro hh
    have := HB.out.ne
    simp at hh
    exact this hh)
  have HR := Lib.hid (bld_Reset (o := 5) hb1 (show 5 + 1 < 9 by decide))
  have K1 := Lib.hid (k1.mono (S' := b :: v.ownBlock.toList) (fun x hx _ => List.mem_cons_of_mem _ hx))
  clear k1 hb1
  go_wp2_with fail
  refine HR.out.mono ?_
  rintro e w2 ⟨rfl, hb2, k2⟩
  have HB2 := Lib.hid hb2
  have K2 := Lib.hid (K1.out.trans' k2 (fun x hx _ => by simp at hx; simp [hx]))
  clear hb2 k2
  go_wp2_with fail
  go_ret
  refine ⟨o, rfl, HD.out, ⟨.pointer none, [], ⟨HB2.out, .inl rfl, rfl, Own.nil _ _ _ _ _, by simp [Value.ownBlock]⟩, by simp⟩, K2.out⟩

/-- what Add comes to -/
def AddR (c : Ck) (s : List UInt8) (c' : Ck) : Prop := if c.err ≠ 0 then c' = c else ∃ d e, Runs (c.add s) d e ∧ c' = { d with err := if e = 17 then 0 else e }
theorem add_ok {c : Ck} (h : c.ok) (s : List UInt8) : (c.add s).ok := h

set_option maxHeartbeats 2000000 in
set_option maxRecDepth 100000 in
theorem chunk_Add (B b : Nat) (p s : List UInt8) (c c' : Ck) (v : Value) (w : World) (hm : ML w) (hb : 0 ≠ b) (h : Ct B w b p c v) (hB : B ≤ w.heap.size) (hbig : 0 < B) (hl : c.inp.length + c.dat.length + s.length ≤ 1048576) (hmost : (c.most : Int) ≤ 9223372036854775807) (hok : c.err = 0 → c.ok) (ha : AddR c s c') :
    Calls Tryd.prog 27 #[.pointer (some ⟨b, 0, none⟩), .string (S s)] w fun e w' => e = .returned (.int .i64 c'.err) ∧ Aft B w b p v c' w' := by
  obtain ⟨_, _, _, _, c4, _, c8⟩ := h.at
  unfold AddR at ha
  by_cases he : c.err = 0
  · rw [if_neg (by simp [he])] at ha
    obtain ⟨d, e0, hr, hc'⟩ := ha
    have s1 := S_size c.inp
    have s2 := S_size s
    have hcat := S_append c.inp s
    have lc : (c.inp ++ s).length = c.inp.length + s.length := by simp
    have f4 := h.free 4
    have hko := hok he
    have hro := runs_ok hr (add_ok hko s)
    have hderr : d.err = 0 := hro.2.2.1.trans he
    have H1 := Lib.hid (h.set 4 (.string (S (c.inp ++ s))) (c' := c.add s) (fun _ => rfl) rfl)
    have K1 := Lib.hid ((Keep.refl [b] w).setCell ⟨b, 4, none⟩ (.string (S (c.inp ++ s))) (by simp))
    have HR := Lib.hid hr
    have HM := Lib.hid hm
    rw [he] at c8
    clear h hr hok hm hro
    go_enter Tryd.func27, Tryd.ntmps27
    go_wp2_with fail
    go_step3
    go_wp2_with fail
    go_step3
    go_wp2_with fail
    generalize hw1 : w.setCell ⟨b, 4, none⟩ (.string (S (c.inp ++ s))) = w1 at *
    try rw [hw1]
    clear hw1 c4 c8 f4
    go_loopg [5] (c.add s).mu (fun g ev wr => ∃ cur : Ck, g = cur.mu ∧ Hid (Aft B w b p v cur wr) ∧ Hid (Runs cur d e0) ∧ Hid (cur.ok) ∧ Hid (cur.inp.length + cur.dat.length ≤ 1048576 ∧ cur.most = c.most ∧ cur.err = 0))
    case atStart => exact ⟨c.add s, rfl, Lib.hid (Aft.of H1.out K1.out), HR, Lib.hid hko, Lib.hid ⟨by show (c.inp ++ s).length + c.dat.length ≤ _; omega, rfl, he⟩⟩
    case round =>
      obtain ⟨cur, hg, HA, HRu, HK, HL⟩ := hrel
      obtain ⟨v1, hct, hk, hv⟩ := HA.out
      obtain ⟨hl1, hmo, hce⟩ := HL.out
      have hso := step_ok HK.out
      have hS := chunk_step B b p cur v1 wr (by
        obtain ⟨x, hx⟩ := HM.out
        exact (ML.keep ⟨x, hx⟩ hk (by
          simp only [List.mem_cons, not_or]
          refine ⟨hb, fun hh => ?_⟩
          have : v.ownBlock = some 0 := by simpa using hh
          have hlt : B ≤ 0 := by
            obtain ⟨ad, o, hbd, _⟩ := H1.out
            exact (hbd.own.lt _ this).1
          omega))) hb hct (Nat.le_trans hB hk.size) hl1 (by rw [hmo]; exact hmost) HK.out
      have HS := Lib.hid hS
      have HCt := Lib.hid (And.intro hct (And.intro hk hv))
      have HRc := Lib.hid (show (stepM cur).2 = 0 ∧ Runs (stepM cur).1 d e0 ∨ (stepM cur).2 ≠ 0 ∧ d = (stepM cur).1 ∧ e0 = (stepM cur).2 by
        cases HRu.out with
        | stop hh => exact .inr ⟨hh, rfl, rfl⟩
        | more hh hh2 => exact .inl ⟨hh, hh2⟩)
      have HSo := Lib.hid hso
      generalize hst : stepM cur = sr at HS HRc HSo
      obtain ⟨nx, er⟩ := sr
      dsimp only at HS HRc HSo
      clear hso hS hct hk hv HA HRu hst hl1 hmo hce
      by_cases h0 : er = 0
      · subst h0
        have hR2 : Runs nx d e0 := by
          rcases HRc.out with hh | hh
          · exact hh.2
          · exact absurd rfl hh.1
        have HR2 := Lib.hid hR2
        clear hR2
        go_wp2_with fail
        refine HS.out.mono ?_
        rintro e w2 ⟨rfl, v2, a1, a2, a3⟩
        have HA2 := Lib.hid (Aft.trans HCt.out.1 HCt.out.2.1 HCt.out.2.2 a1 a2 a3)
        clear a1 a2 a3
        go_wp2_with fail
        go_roundg nx.mu
        case measure => rw [hg]; exact HSo.out.1 (by first | rfl | trivial)
        case rel =>
          obtain ⟨q1, q2, q3, q4, q5, _⟩ := HSo.out
          exact ⟨nx, rfl, HA2, HR2, Lib.hid (q2 (.inl (by first | rfl | trivial))), Lib.hid ⟨Nat.le_trans q5 HL.out.1, q3.trans HL.out.2.1, q4.trans HL.out.2.2⟩⟩
      · have hde : d = nx ∧ e0 = er := by
          rcases HRc.out with hh | hh
          · exact absurd hh.1 h0
          · exact hh.2
        obtain ⟨rfl, rfl⟩ := hde
        by_cases h17 : e0 = 17
        · subst h17
          have HC := Lib.hid (show c' = d by rw [hc', if_pos rfl, ← hderr])
          clear hc'
          go_wp2_with fail
          refine HS.out.mono ?_
          rintro e w2 ⟨rfl, v2, a1, a2, a3⟩
          have HA2 := Lib.hid (Aft.trans HCt.out.1 HCt.out.2.1 HCt.out.2.2 a1 a2 a3)
          obtain ⟨_, _, _, _, _, _, e8⟩ := a1.at
          clear a1 a2 a3
          go_wp2_with fail
          rw [Exit.noGoto_ret]
          go_ret
          rw [HC.out]
          exact ⟨by rw [hderr]; rfl, HA2.out⟩
        · have q1 := (int_ne h0).1
          have q2 := (int_ne h17).1
          have HC := Lib.hid (show c' = { d with err := e0 } by rw [hc', if_neg h17])
          clear hc' h17 h0
          go_wp2_with fail
          refine HS.out.mono ?_
          rintro e w2 ⟨rfl, v2, a1, a2, a3⟩
          have HA2 := Lib.hid (Aft.trans HCt.out.1 HCt.out.2.1 HCt.out.2.2 a1 a2 a3)
          obtain ⟨_, _, _, _, _, _, e8⟩ := a1.at
          have g8 := a1.free 8
          clear a1 a2 a3
          go_wp2_with fail
          rw [Exit.noGoto_ret]
          go_ret
          obtain ⟨v3, a1, a2, a3⟩ := HA2.out
          rw [HC.out]
          exact ⟨rfl, v3, a1.set 8 _ (fun _ => rfl) rfl, a2.setCell _ _ (by simp), a3⟩
  · rw [if_pos he] at ha
    have q1 := (int_ne he).1
    have q2 := (int_ne he).2
    have H := Lib.hid h
    subst ha
    clear h
    go_enter Tryd.func27, Tryd.ntmps27
    go_wp2_with fail
    go_step3
    go_wp2_with fail
    rw [Exit.noGoto_ret]
    go_ret
    exact ⟨rfl, Aft.of H.out (Keep.refl _ _)⟩
end Go.Proofs.YtmfnciocnlmceaaDoor

/- Layer 11, plain laws: the document's line, number; the machine's steps one by one. No program. No conditions but those that each theorem states. -/
namespace Go.Proofs.YtmfnciocnlmceaaDoor
open Go.RowKit

theorem runs_step {c d : Ck} {e : Int} (h : Runs c d e) : (stepM c).2 = 0 ∧ Runs (stepM c).1 d e ∨ (stepM c).2 ≠ 0 ∧ d = (stepM c).1 ∧ e = (stepM c).2 := by
  cases h with
  | stop hh => exact .inr ⟨hh, rfl, rfl⟩
  | more hh hh2 => exact .inl ⟨hh, hh2⟩
theorem step0 {c : Ck} (h : c.st = 0) : stepM c = beginM c := by unfold stepM; rw [if_pos h]
theorem step1 {c : Ck} (h : c.st = 1) : stepM c = dataM c := by unfold stepM; rw [if_neg (by omega), if_pos h]
theorem step2 {c : Ck} (h : c.st = 2) : stepM c = closeM c := by unfold stepM; rw [if_neg (by omega), if_neg (by omega), if_pos h]
theorem step3 {c : Ck} (h : c.st = 3) : stepM c = trailM c := by unfold stepM; rw [if_neg (by omega), if_neg (by omega), if_neg (by omega), if_pos h]
theorem step4 {c : Ck} (h : c.st = 4) : stepM c = (c, 17) := by unfold stepM; rw [if_neg (by omega), if_neg (by omega), if_neg (by omega), if_neg (by omega)]
theorem runs_eq {c d : Ck} {e : Int} {r : Ck × Int} (h : Runs c d e) (hs : stepM c = r) : r.2 = 0 ∧ Runs r.1 d e ∨ r.2 ≠ 0 ∧ d = r.1 ∧ e = r.2 := by rw [← hs]; exact runs_step h
/-- a chunk's line -/
theorem runs_begin {c d : Ck} {e : Int} (h : Runs c d e) (h0 : c.st = 0) :
    ((lnC c.inp).e ≠ 0 ∧ d = c ∧ e = (lnC c.inp).e) ∨
    ((lnC c.inp).e = 0 ∧ numE (lnC c.inp).t ((c.most : Int) - c.dat.length) ≠ 0 ∧ d = { c with inp := (lnC c.inp).r } ∧ e = numE (lnC c.inp).t ((c.most : Int) - c.dat.length)) ∨
    ((lnC c.inp).e = 0 ∧ numE (lnC c.inp).t ((c.most : Int) - c.dat.length) = 0 ∧ Runs { c with inp := (lnC c.inp).r, left := (numV (lnC c.inp).t ((c.most : Int) - c.dat.length)).toNat, st := if numV (lnC c.inp).t ((c.most : Int) - c.dat.length) = 0 then 3 else 1 } d e) := by
  have hr := runs_eq h (step0 h0)
  unfold beginM at hr
  by_cases h1 : (lnC c.inp).e = 0
  · rw [if_neg (by simp [h1])] at hr
    by_cases h2 : numE (lnC c.inp).t ((c.most : Int) - c.dat.length) = 0
    · rw [if_neg (by simp [h2])] at hr
      rcases hr with hr | hr
      · exact .inr (.inr ⟨h1, h2, hr.2⟩)
      · exact absurd rfl hr.1
    · rw [if_pos h2] at hr
      rcases hr with hr | hr
      · exact absurd hr.1 h2
      · exact .inr (.inl ⟨h1, h2, hr.2⟩)
  · rw [if_pos h1] at hr
    rcases hr with hr | hr
    · exact absurd hr.1 h1
    · exact .inl ⟨h1, hr.2⟩
/-- a chunk's data -/
theorem runs_data {c d : Ck} {e : Int} (h : Runs c d e) (h0 : c.st = 1) :
    (c.inp.length < c.left ∧ d = { c with inp := [], dat := c.dat ++ c.inp, left := c.left - c.inp.length } ∧ e = 17) ∨
    (c.left ≤ c.inp.length ∧ Runs { c with inp := c.inp.drop c.left, dat := c.dat ++ c.inp.take c.left, left := 0, st := 2 } d e) := by
  have hr := runs_eq h (step1 h0)
  unfold dataM at hr
  by_cases h1 : c.inp.length < c.left
  · have hm : min c.left c.inp.length = c.inp.length := by omega
    rw [hm, if_pos (by omega), List.drop_length, List.take_length] at hr
    rcases hr with hr | hr
    · have := hr.1; simp at this
    · exact .inl ⟨h1, hr.2⟩
  · have hm : min c.left c.inp.length = c.left := by omega
    rw [hm, if_neg (by omega), Nat.sub_self] at hr
    rcases hr with hr | hr
    · exact .inr ⟨by omega, hr.2⟩
    · exact absurd rfl hr.1
/-- what follows a chunk's data -/
theorem runs_close {c d : Ck} {e : Int} (h : Runs c d e) (h0 : c.st = 2) :
    (c.inp.take 2 ≠ crlfC.take c.inp.length ∧ d = c ∧ e = 3) ∨
    (c.inp.take 2 = crlfC.take c.inp.length ∧ c.inp.length < 2 ∧ d = c ∧ e = 17) ∨
    (c.inp.take 2 = crlfC.take c.inp.length ∧ 2 ≤ c.inp.length ∧ Runs { c with inp := c.inp.drop 2, st := 0 } d e) := by
  have hr := runs_eq h (step2 h0)
  unfold closeM at hr
  by_cases h1 : c.inp.take 2 = crlfC.take c.inp.length
  · rw [if_neg (by simp [h1])] at hr
    by_cases h2 : c.inp.length < 2
    · rw [if_pos h2] at hr
      rcases hr with hr | hr
      · have := hr.1; simp at this
      · exact .inr (.inl ⟨h1, h2, hr.2⟩)
    · rw [if_neg h2] at hr
      rcases hr with hr | hr
      · exact .inr (.inr ⟨h1, by omega, hr.2⟩)
      · exact absurd rfl hr.1
  · rw [if_pos h1] at hr
    rcases hr with hr | hr
    · have := hr.1; simp at this
    · exact .inl ⟨h1, hr.2⟩
/-- a line behind the last chunk -/
theorem runs_trail {c d : Ck} {e : Int} (h : Runs c d e) (h0 : c.st = 3) :
    ((lnC c.inp).e ≠ 0 ∧ d = c ∧ e = (lnC c.inp).e) ∨
    ((lnC c.inp).e = 0 ∧ (lnC c.inp).t = [] ∧ d = { c with inp := (lnC c.inp).r, st := 4 } ∧ e = 17) ∨
    ((lnC c.inp).e = 0 ∧ (lnC c.inp).t ≠ [] ∧ parseE (lnC c.inp).t ≠ 0 ∧ d = { c with inp := (lnC c.inp).r } ∧ e = 3) ∨
    ((lnC c.inp).e = 0 ∧ (lnC c.inp).t ≠ [] ∧ parseE (lnC c.inp).t = 0 ∧ 16 ≤ c.flds ∧ d = { c with inp := (lnC c.inp).r, flds := c.flds + 1 } ∧ e = 4) ∨
    ((lnC c.inp).e = 0 ∧ (lnC c.inp).t ≠ [] ∧ parseE (lnC c.inp).t = 0 ∧ c.flds < 16 ∧ Runs { c with inp := (lnC c.inp).r, flds := c.flds + 1 } d e) := by
  have hr := runs_eq h (step3 h0)
  unfold trailM at hr
  by_cases h1 : (lnC c.inp).e = 0
  · rw [if_neg (by simp [h1])] at hr
    by_cases h2 : (lnC c.inp).t = []
    · rw [if_pos h2] at hr
      rcases hr with hr | hr
      · have hq := runs_eq hr.2 (step4 rfl)
        rcases hq with hq | hq
        · have := hq.1; simp at this
        · exact .inr (.inl ⟨h1, h2, hq.2⟩)
      · exact absurd rfl hr.1
    · rw [if_neg h2] at hr
      by_cases h3 : parseE (lnC c.inp).t = 0
      · rw [if_neg (by simp [h3])] at hr
        by_cases h4 : 16 < c.flds + 1
        · rw [if_pos h4] at hr
          rcases hr with hr | hr
          · have := hr.1; simp at this
          · exact .inr (.inr (.inr (.inl ⟨h1, h2, h3, by omega, hr.2⟩)))
        · rw [if_neg h4] at hr
          rcases hr with hr | hr
          · exact .inr (.inr (.inr (.inr ⟨h1, h2, h3, by omega, hr.2⟩)))
          · exact absurd rfl hr.1
      · rw [if_pos h3] at hr
        rcases hr with hr | hr
        · exact absurd hr.1 h3
        · have h5 : parseE (lnC c.inp).t = 3 := by rcases parseE_cases (lnC c.inp).t with h | h; exact absurd h h3; exact h
          exact .inr (.inr (.inl ⟨h1, h2, h3, hr.2.1, hr.2.2.trans h5⟩))
  · rw [if_pos h1] at hr
    rcases hr with hr | hr
    · exact absurd hr.1 h1
    · exact .inl ⟨h1, hr.2⟩

theorem suffix_crlf {l : List UInt8} {k : Nat} (h : l[k]? = some 10) : Lib.hasSuffix (l.take (k + 1)) crlfC = (decide (0 < k) && decide (l[k - 1]? = some 13)) := by
  unfold Lib.hasSuffix
  rw [Bool.eq_iff_iff, List.isSuffixOf_iff_suffix]
  have e1 : l.take (k + 1) = l.take k ++ [10] := take_snoc h
  rw [e1]
  cases k with
  | zero =>
    simp
    intro hs
    have := hs.length_le
    simp [crlfC] at this
  | succ j =>
    have hj : j < l.length := by have := (List.getElem?_eq_some_iff.1 h).1; omega
    obtain ⟨x, hx⟩ : ∃ x, l[j]? = some x := ⟨_, List.getElem?_eq_getElem hj⟩
    rw [take_snoc hx]
    have hs : (l.take j ++ [x] ++ [10] : List UInt8) = l.take j ++ [x, 10] := by simp
    rw [hs, show j + 1 - 1 = j by omega, hx]
    simp
    constructor
    · rintro ⟨p, hp⟩
      have := (List.append_inj' hp (by simp [crlfC])).2
      have h2 : (13 : UInt8) = x := by simpa [crlfC] using this
      exact h2.symm
    · rintro rfl
      exact ⟨l.take j, rfl⟩
/-- the place behind a line -/
def nxt (s : List UInt8) (a : Nat) : Nat := if (lnC (s.drop a)).e = 0 then s.length - (lnC (s.drop a)).r.length else 0
theorem ln_suffix (l : List UInt8) : (lnC l).r <:+ l := by
  rcases line_cases l with hn | ⟨k, hk, hkl, h256⟩
  · rw [line_short hn]; split <;> exact List.suffix_refl _
  · rw [line_at hk]
    split
    · exact List.drop_suffix _ _
    · exact List.suffix_refl _
theorem drop_of_suffix {s r : List UInt8} (h : r <:+ s) : s.drop (s.length - r.length) = r := by
  obtain ⟨p, rfl⟩ := h
  simp
theorem nxt_drop {s : List UInt8} {a : Nat} (h : (lnC (s.drop a)).e = 0) : s.drop (nxt s a) = (lnC (s.drop a)).r ∧ nxt s a ≤ s.length ∧ (a ≤ s.length → a + 2 ≤ nxt s a) := by
  have h1 := ln_suffix (s.drop a)
  have h2 := line_le (s.drop a)
  have h3 := h2.2.1 h
  rw [List.length_drop] at h3
  have hl := h1.length_le
  rw [List.length_drop] at hl
  unfold nxt
  rw [if_pos h]
  exact ⟨drop_of_suffix (h1.trans (List.drop_suffix _ _)), by omega, fun _ => by omega⟩
theorem dig_mem (b : UInt8) : digitsB.contains b = digOk b := by
  have : ∀ n : Fin 256, digitsB.contains (UInt8.ofNat n.1) = digOk (UInt8.ofNat n.1) := by decide +kernel
  have h := this ⟨b.toNat, b.toNat_lt⟩
  simpa using h
theorem numRest_at {t : List UInt8} {k : Nat} (hk : k ≤ t.length) (h1 : (t.take k).all digOk = true) (h2 : ∀ b, t[k]? = some b → digOk b = false) : numRest t = t.drop k := by
  unfold numRest
  refine Lib.trimLeftS_drop t digitsB k hk (fun j b hj hb => ?_) (fun b hb => ?_)
  · rw [dig_mem]
    exact List.all_eq_true.1 h1 b (List.mem_of_getElem? (i := j) (by rw [List.getElem?_take, if_pos hj]; exact hb))
  · rw [dig_mem]; exact h2 b hb
theorem num_len' (t : List UInt8) : (numRest t).length ≤ t.length := by unfold numRest Lib.trimLeftS; exact List.Sublist.length_le (List.dropWhile_sublist _)
theorem numT_at {t : List UInt8} {k : Nat} (hk : k ≤ t.length) (h : numRest t = t.drop k) : numT t = t.take k := by
  unfold numT
  rw [h, List.length_drop, show t.length - (t.length - k) = k by omega]
theorem sep_mem (b : UInt8) : decide (0 ≤ Lib.indexByte [32, 9, 59] b) = (decide (b = 32) || decide (b = 9) || decide (b = 59)) := by
  have : ∀ n : Fin 256, decide (0 ≤ Lib.indexByte [32, 9, 59] (UInt8.ofNat n.1)) = (decide (UInt8.ofNat n.1 = 32) || decide (UInt8.ofNat n.1 = 9) || decide (UInt8.ofNat n.1 = 59)) := by decide +kernel
  have h := this ⟨b.toNat, b.toNat_lt⟩
  simpa using h
/-- the document's number -/
def numV2 (t : List UInt8) (m : Int) : Int := if restOk (numRest t) then unhexV (numT t) m else 0

/-- what a body comes to: data, whether whole, how long the whole, error -/
structure Bdy where
  dat : List UInt8
  done : Bool
  size : Nat
  err : Int
def Bdy.cells (b : Bdy) : List Value := [.string (S b.dat), .bool b.done, .int .i64 (b.size : Nat), .int .i64 b.err]
def bodyOf (s : List UInt8) (d : Ck) (e : Int) : Bdy := ⟨d.dat, decide (d.st = 4), if d.st = 4 then s.length - d.inp.length else 0, if e = 17 then 0 else e⟩
def endB (b : Bdy) (e : Int) : Bdy := { b with err := if e = 17 then b.err else e }
end Go.Proofs.YtmfnciocnlmceaaDoor

/- Layer 11, plain laws: bytes that come piece by piece. No program. No conditions but those that each theorem states. -/
namespace Go.Proofs.YtmfnciocnlmceaaDoor
open Go.RowKit

theorem step_suffix (c : Ck) : (stepM c).1.inp <:+ c.inp := by
  have hl := ln_suffix c.inp
  unfold stepM
  split
  · unfold beginM; split
    · exact List.suffix_refl _
    · split <;> exact hl
  split
  · unfold dataM; split <;> exact List.drop_suffix _ _
  split
  · unfold closeM; split
    · exact List.suffix_refl _
    · split
      · exact List.suffix_refl _
      · exact List.drop_suffix _ _
  split
  · unfold trailM; split
    · exact List.suffix_refl _
    · split
      · exact hl
      · split <;> exact hl
  · exact List.suffix_refl _
theorem runs_suffix {c d : Ck} {e : Int} (h : Runs c d e) : d.inp <:+ c.inp := by
  induction h with
  | stop _ => exact step_suffix _
  | more _ _ ih => exact ih.trans (step_suffix _)
theorem step_st (c : Ck) (h : c.st ≤ 4) : (stepM c).1.st ≤ 4 ∧ ((stepM c).1.st = 4 → (stepM c).2 = 0 ∨ (stepM c).2 = 17) := by
  unfold stepM
  split
  · unfold beginM; split
    · exact ⟨h, fun hh => by simp only at hh; omega⟩
    · split
      · exact ⟨h, fun hh => by simp only at hh; omega⟩
      · exact ⟨by simp only; split <;> omega, fun _ => .inl rfl⟩
  split
  · unfold dataM; split
    · exact ⟨h, fun _ => .inr rfl⟩
    · exact ⟨by simp only; omega, fun _ => .inl rfl⟩
  split
  · unfold closeM; split
    · exact ⟨h, fun hh => by simp only at hh; omega⟩
    · split
      · exact ⟨h, fun _ => .inr rfl⟩
      · exact ⟨by simp only; omega, fun _ => .inl rfl⟩
  split
  · unfold trailM; split
    · exact ⟨h, fun hh => by simp only at hh; omega⟩
    · split
      · exact ⟨by simp only; omega, fun _ => .inl rfl⟩
      · split
        · exact ⟨h, fun hh => by simp only at hh; omega⟩
        · exact ⟨h, fun hh => by simp only at hh; omega⟩
  · exact ⟨h, fun _ => .inr rfl⟩
theorem runs_st {c d : Ck} {e : Int} (h : Runs c d e) (hc : c.st ≤ 4) : d.st ≤ 4 ∧ (d.st = 4 → e = 17) := by
  induction h with
  | stop hh => have := step_st _ hc; exact ⟨this.1, fun h4 => by rcases this.2 h4 with h | h; exact absurd h hh; exact h⟩
  | more _ _ ih => exact ih (step_st _ hc).1
/-- what a reader is behind all bytes -/
def Rdc (m : Int) (all : List UInt8) (c : Ck) : Prop := ∃ d e, Runs ((ck0 m).add all) d e ∧ c = { d with err := if e = 17 then 0 else e }
theorem rd_nil (m : Int) : Rdc m [] (ck0 m) := by
  refine ⟨ck0 m, 17, ?_, rfl⟩
  have h : stepM ((ck0 m).add []) = (ck0 m, 17) := by
    show beginM ⟨0, 0, (max m 0).toNat, 0, [], [], 0⟩ = _
    unfold beginM
    rw [if_pos (by show (lnC []).e ≠ 0; decide)]
    rfl
  have := Runs.stop (c := (ck0 m).add []) (by rw [h]; show (17 : Int) ≠ 0; decide)
  rw [h] at this
  exact this
theorem Rdc.mk' {m : Int} {all : List UInt8} {d : Ck} {e : Int} (h : Runs ((ck0 m).add all) d e) : Rdc m all { d with err := if e = 17 then 0 else e } := ⟨d, e, h, rfl⟩
theorem Rdc.sound {m : Int} {all : List UInt8} {c : Ck} (h : Rdc m all c) : (c.err = 0 → c.ok ∧ Runs ((ck0 m).add all) c 17) ∧ c.most = (max m 0).toNat ∧ c.inp.length + c.dat.length ≤ all.length ∧ c.st ≤ 4 ∧ (c.st = 4 → c.err = 0) ∧ c.inp <:+ all := by
  obtain ⟨d, e, hr, rfl⟩ := h
  have ho := runs_ok hr (add_ok (ck0_ok m) all)
  have hd : d.err = 0 := ho.2.2.1
  have hs := runs_st hr (show ((ck0 m).add all).st ≤ 4 by simp [Ck.add, ck0])
  have hx := runs_suffix hr
  refine ⟨fun h0 => ?_, ho.2.1, ?_, hs.1, fun h4 => ?_, ?_⟩
  · have he : e = 17 := by
      simp only at h0
      split at h0
      · assumption
      · exact absurd h0 (runs_ne hr)
    subst he
    have : ({ d with err := if (17 : Int) = 17 then 0 else 17 } : Ck) = d := by rw [if_pos rfl, ← hd]
    rw [this]
    exact ⟨ho.1 rfl, hr⟩
  · have := ho.2.2.2.1; simpa [Ck.add, ck0] using this
  · simp only; rw [if_pos (hs.2 h4)]
  · simpa [Ck.add, ck0] using hx
theorem Rdc.add {m : Int} {all s : List UInt8} {c c' : Ck} (h : Rdc m all c) (ha : AddR c s c') : (c.err = 0 → Rdc m (all ++ s) c') ∧ (c.err ≠ 0 → c' = c) := by
  unfold AddR at ha
  by_cases h0 : c.err = 0
  · rw [if_neg (by simp [h0])] at ha
    obtain ⟨d, e, hr, hc⟩ := ha
    have hq := (h.sound.1 h0).2
    have := (runs_app hq s).2 rfl d e hr
    refine ⟨fun _ => ⟨d, e, ?_, hc⟩, fun hh => absurd h0 hh⟩
    have ee : ((ck0 m).add all).add s = (ck0 m).add (all ++ s) := by simp [Ck.add]
    rw [← ee]; exact this
  · rw [if_pos h0] at ha
    exact ⟨fun hh => absurd hh h0, fun _ => ha⟩
theorem addR_ex (c : Ck) (s : List UInt8) (h : c.err = 0 → c.ok) : ∃ c', AddR c s c' := by
  unfold AddR
  by_cases h0 : c.err = 0
  · obtain ⟨d, e, hr⟩ := runs_ex (c.add s).mu (c.add s) (add_ok (h h0) s) (Nat.le_refl _)
    exact ⟨_, by rw [if_neg (by simp [h0])]; exact ⟨d, e, hr, rfl⟩⟩
  · exact ⟨c, by rw [if_pos h0]⟩
theorem Rdc.more {m : Int} {all : List UInt8} {c : Ck} (h : Rdc m all c) (s : List UInt8) : ∃ c', AddR c s c' := addR_ex c s (fun h0 => (h.sound.1 h0).1)
/-- the document's answer, of the reader -/
theorem Rdc.body {m : Int} {all : List UInt8} {c : Ck} (h : Rdc m all c) : ∃ d e, Runs ((ck0 m).add all) d e ∧ (bodyOf all d e).dat = c.dat ∧ (bodyOf all d e).done = decide (c.st = 4) ∧ (bodyOf all d e).size = (if c.st = 4 then all.length - c.inp.length else 0) ∧ (bodyOf all d e).err = c.err ∧ (c.st = 4 → all.drop (all.length - c.inp.length) = c.inp) := by
  have hs := h.sound
  obtain ⟨d, e, hr, rfl⟩ := h
  exact ⟨d, e, hr, rfl, rfl, rfl, rfl, fun _ => drop_of_suffix hs.2.2.2.2.2⟩
/-- with an error earlier, the error of all -/
theorem rd_prefix {m : Int} {all s : List UInt8} {c c' : Ck} (h : Rdc m all c) (he : c.err ≠ 0) (h' : Rdc m (all ++ s) c') : c'.err = c.err ∧ c'.dat = c.dat ∧ c'.st = c.st := by
  obtain ⟨d, e, hr, rfl⟩ := h
  obtain ⟨d', e', hr', rfl⟩ := h'
  have h17 : e ≠ 17 := by intro hh; subst hh; exact he rfl
  have := (runs_app hr s).1 h17
  have ee : ((ck0 m).add all).add s = (ck0 m).add (all ++ s) := by simp [Ck.add]
  rw [ee] at this
  obtain ⟨rfl, rfl⟩ := runs_det hr' this
  exact ⟨rfl, rfl, rfl⟩
theorem rd_det {m : Int} {all : List UInt8} {c c' : Ck} (h : Rdc m all c) (h' : Rdc m all c') : c = c' := by
  obtain ⟨d, e, hr, rfl⟩ := h
  obtain ⟨d', e', hr', rfl⟩ := h'
  obtain ⟨rfl, rfl⟩ := runs_det hr hr'
  rfl
/-- alike for who asks: the same error, data, end; without an error the same rest -/
def Like (a b : Ck) : Prop := b.err = a.err ∧ b.dat = a.dat ∧ b.st = a.st ∧ (a.err = 0 → b.inp = a.inp)
/-- pieces added one behind the other -/
def Rq (m : Int) (all : List UInt8) (c : Ck) : Prop := ∃ p s, all = p ++ s ∧ Rdc m p c ∧ (c.err = 0 → s = [])
theorem rq_nil (m : Int) : Rq m [] (ck0 m) := ⟨[], [], rfl, rd_nil m, fun _ => rfl⟩
theorem Rq.add {m : Int} {all s : List UInt8} {c c' : Ck} (h : Rq m all c) (ha : AddR c s c') : Rq m (all ++ s) c' := by
  obtain ⟨p, t, rfl, hr, hz⟩ := h
  have := hr.add ha
  by_cases h0 : c.err = 0
  · rw [hz h0]
    exact ⟨p ++ s, [], by simp, this.1 h0, fun _ => rfl⟩
  · have hc := this.2 h0
    subst hc
    exact ⟨p, t ++ s, by simp, hr, fun hh => absurd hh h0⟩
theorem Rq.sound {m : Int} {all : List UInt8} {c : Ck} (h : Rq m all c) : (c.err = 0 → c.ok) ∧ c.most = (max m 0).toNat ∧ c.inp.length + c.dat.length ≤ all.length ∧ c.st ≤ 4 := by
  obtain ⟨p, t, rfl, hr, hz⟩ := h
  have := hr.sound
  exact ⟨fun h0 => (this.1 h0).1, this.2.1, by rw [List.length_append]; omega, this.2.2.2.1⟩
theorem Rq.like {m : Int} {all : List UInt8} {a b : Ck} (ha : Rdc m all a) (hb : Rq m all b) : Like a b := by
  obtain ⟨p, t, rfl, hr, hz⟩ := hb
  by_cases h0 : b.err = 0
  · have := hz h0
    subst this
    rw [List.append_nil] at ha
    have := rd_det ha hr
    subst this
    exact ⟨rfl, rfl, rfl, fun _ => rfl⟩
  · obtain ⟨h1, h2, h3⟩ := rd_prefix hr h0 ha
    exact ⟨h1.symm, h2.symm, h3.symm, fun hh => absurd (h1.symm.trans hh) h0⟩
theorem Rdc.rq {m : Int} {all : List UInt8} {c : Ck} (h : Rdc m all c) : Rq m all c := ⟨all, [], by simp, h, fun _ => rfl⟩
theorem ckd_le {c : Ck} (h : c.ok) : c.dat.length ≤ c.most := by have := h.1; omega
theorem step_dat {c : Ck} (h : c.ok) : (stepM c).1.dat.length ≤ c.most := by
  have hm := (step_ok h).2.2.1
  have key : (stepM c).1.ok → (stepM c).1.dat.length ≤ c.most := fun hh => by have := ckd_le hh; omega
  unfold stepM at key hm ⊢
  split at key
  · rw [if_pos (by assumption)]; exact key (begin_ok h (by assumption)).2.1
  split at key
  · rw [if_neg (by assumption), if_pos (by assumption)]; exact key (data_ok h (by assumption)).2.1
  split at key
  · rw [if_neg (by assumption), if_neg (by assumption), if_pos (by assumption)]; exact key (close_ok h (by assumption)).2.1
  split at key
  · rw [if_neg (by assumption), if_neg (by assumption), if_neg (by assumption), if_pos (by assumption)]
    have : (trailM c).1.dat = c.dat := by
      unfold trailM
      split
      · rfl
      · split
        · rfl
        · split <;> rfl
    rw [this]; exact ckd_le h
  · rw [if_neg (by assumption), if_neg (by assumption), if_neg (by assumption), if_neg (by assumption)]; exact ckd_le h
theorem runs_dat {c d : Ck} {e : Int} (h : Runs c d e) (hc : c.ok) : d.dat.length ≤ c.most := by
  induction h with
  | stop hh => exact step_dat hc
  | more hh _ ih =>
    have hs := step_ok hc
    rw [← hs.2.2.1]
    exact ih (hs.2.1 (.inl hh))
theorem Rdc.dat {m : Int} {all : List UInt8} {c : Ck} (h : Rdc m all c) : c.dat.length ≤ (max m 0).toNat := by
  obtain ⟨d, e, hr, rfl⟩ := h
  exact runs_dat hr (add_ok (ck0_ok m) all)
end Go.Proofs.YtmfnciocnlmceaaDoor

/- Layer 11: a reader among others in memory. No conditions but on lengths. -/
namespace Go.Proofs.YtmfnciocnlmceaaDoor
open Go.RowKit Go.Shelf

/-- the reader's run, with so many steps at most -/
def runF : Nat → Ck → Ck × Int
  | 0, c => stepM c
  | n + 1, c => if (stepM c).2 = 0 then runF n (stepM c).1 else stepM c
theorem runF_runs : ∀ (n : Nat) (c : Ck), c.ok → c.mu ≤ n → Runs c (runF n c).1 (runF n c).2
  | n, c, h, hn => by
    by_cases h0 : (stepM c).2 = 0
    · have hs := step_ok h
      have hm := hs.1 h0
      match n, hn with
      | 0, hn => omega
      | n + 1, hn =>
        have hr := runF_runs n (stepM c).1 (hs.2.1 (.inl h0)) (by omega)
        rw [runF, if_pos h0]
        exact .more h0 hr
    · match n, hn with
      | 0, hn => rw [runF]; exact .stop h0
      | n + 1, hn => rw [runF, if_neg h0]; exact .stop h0
def addC (c : Ck) (s : List UInt8) : Ck := if c.err ≠ 0 then c else { (runF (c.add s).mu (c.add s)).1 with err := if (runF (c.add s).mu (c.add s)).2 = 17 then 0 else (runF (c.add s).mu (c.add s)).2 }
theorem addC_R {c : Ck} {s : List UInt8} (h : c.err = 0 → c.ok) : AddR c s (addC c s) := by
  unfold AddR addC
  by_cases h0 : c.err = 0
  · rw [if_neg (by simp [h0]), if_neg (by simp [h0])]
    exact ⟨_, _, runF_runs _ _ (add_ok (h h0) s) (Nat.le_refl _), rfl⟩
  · rw [if_pos h0, if_pos h0]


/-- a reader in memory: X: what its calls write -/
structure Cx (B : Nat) (w : World) (b : Nat) (X : List Nat) (p : List UInt8) (c : Ck) : Prop where
  at' : ∃ v, Ct B w b p c v ∧ ∀ g, v.ownBlock = some g → g ∈ X
  mem : b ∈ X
  lo : ∀ x ∈ X, B ≤ x ∧ x < w.heap.size
theorem Cx.keep {B b : Nat} {w w' : World} {X S : List Nat} {p : List UInt8} {c : Ck} (h : Cx B w b X p c) (k : Keep S w w') (hX : ∀ x ∈ X, x ∉ S) : Cx B w' b X p c := by
  obtain ⟨⟨v, h1, h2⟩, h3, h4⟩ := h
  exact ⟨⟨v, h1.keep k (hX b h3) (fun g hg => hX g (h2 g hg)), h2⟩, h3, fun x hx => ⟨(h4 x hx).1, Nat.lt_of_lt_of_le (h4 x hx).2 k.size⟩⟩
theorem Cx.keep0 {B b : Nat} {w w' : World} {X : List Nat} {p : List UInt8} {c : Ck} (h : Cx B w b X p c) (k : Keep [] w w') : Cx B w' b X p c := h.keep k (by simp)
theorem ML.keepB {B : Nat} {w w' : World} {X : List Nat} (hm : ML w) (hbig : 0 < B) (k : Keep X w w') (hX : ∀ x ∈ X, B ≤ x) : ML w' := hm.keep k (fun hh => absurd (hX _ hh) (by omega))
theorem ML.lt {w : World} (hm : ML w) : 0 < w.heap.size := let ⟨_, h⟩ := hm; World.block_lt_of_cell? w _ h
/-- what lies apart stays apart -/
theorem apart_new {w : World} {X X' Y : List Nat} (h : ∀ x ∈ X, x ∉ Y) (hn : ∀ x ∈ X', x ∈ X ∨ w.heap.size ≤ x) (hY : ∀ y ∈ Y, y < w.heap.size) : ∀ x ∈ X', x ∉ Y := fun x hx hy => by
  rcases hn x hx with h1 | h1
  · exact h x h1 hy
  · have := hY x hy; omega
theorem apart_symm {X Y : List Nat} (h : ∀ x ∈ X, x ∉ Y) : ∀ y ∈ Y, y ∉ X := fun y hy hx => h y hx hy
/-- seen from where the call began, nothing has changed -/
theorem Keep.above {w0 w w' : World} {X : List Nat} (h : Keep [] w0 w) (k : Keep X w w') (hX : ∀ x ∈ X, w0.heap.size ≤ x) : Keep [] w0 w' := h.trans' k (fun x hx hl => absurd (hX x hx) (by omega))
theorem cx_new (B : Nat) (m : Int) (w : World) (hB : B ≤ w.heap.size) :
    Calls Tryd.prog 25 #[.int .i64 m] w fun e w' => ∃ b, e = .returned (.pointer (some ⟨b, 0, none⟩)) ∧ w.heap.size ≤ b ∧ Cx B w' b [b] [] (ck0 m) ∧ Keep [] w w' := by
  refine (chunk_New B m w hB).mono ?_
  rintro e w' ⟨b, rfl, h1, h2, h3, h4⟩
  exact ⟨b, rfl, h1, ⟨⟨_, h3, by simp [Value.ownBlock]⟩, by simp, fun x hx => by simp at hx; subst hx; exact ⟨by omega, h2⟩⟩, h4⟩
theorem cx_add {B b : Nat} {X : List Nat} {p s : List UInt8} {c : Ck} {w : World} (h : Cx B w b X p c) (hm : ML w) (hbig : 0 < B) (hl : c.inp.length + c.dat.length + s.length ≤ 1048576) (hmost : (c.most : Int) ≤ 9223372036854775807) (hok : c.err = 0 → c.ok) :
    Calls Tryd.prog 27 #[.pointer (some ⟨b, 0, none⟩), .string (S s)] w fun e w' => e = .returned (.int .i64 (addC c s).err) ∧ ∃ X', Cx B w' b X' p (addC c s) ∧ Keep X w w' ∧ ∀ x ∈ X', x ∈ X ∨ w.heap.size ≤ x := by
  obtain ⟨⟨v, h1, h2⟩, h3, h4⟩ := h
  have hb := h4 b h3
  refine (chunk_Add B b p s c (addC c s) v w hm (by omega) h1 (by omega) hbig hl hmost hok (addC_R hok)).mono ?_
  rintro e w' ⟨rfl, v', g1, g2, g3⟩
  have g4 : Keep X w w' := g2.mono (fun x hx _ => by
    rcases List.mem_cons.1 hx with rfl | hx
    · exact h3
    · exact h2 x (by simpa using hx))
  refine ⟨rfl, b :: v'.ownBlock.toList, ⟨⟨v', g1, fun g hg => by rw [hg]; simp⟩, by simp, fun x hx => ?_⟩, g4, fun x hx => ?_⟩
  · rcases List.mem_cons.1 hx with rfl | hx
    · exact ⟨hb.1, Nat.lt_of_lt_of_le hb.2 g4.size⟩
    · obtain ⟨_, _, gb, _⟩ := g1
      exact gb.own.lt x (by simpa using hx)
  · rcases List.mem_cons.1 hx with rfl | hx
    · exact .inl h3
    · rcases g3 with e3 | ⟨g, e3, hg⟩
      · rw [e3] at hx; exact .inl (h2 x (by simpa using hx))
      · rw [e3] at hx
        have : x = g := by simpa using hx
        exact .inr (by omega)
theorem cx_take {B b : Nat} {X : List Nat} {p : List UInt8} {c : Ck} {w : World} (h : Cx B w b X p c) :
    Calls Tryd.prog 28 #[.pointer (some ⟨b, 0, none⟩)] w fun e w' => ∃ o, e = .returned (.string (S o)) ∧ c.dat = p ++ o ∧ Cx B w' b X c.dat c ∧ Keep X w w' := by
  obtain ⟨⟨v, h1, h2⟩, h3, h4⟩ := h
  refine (chunk_Take h1).mono ?_
  rintro e w' ⟨o, rfl, g1, g2, g3⟩
  have g4 : Keep X w w' := g3.mono (fun x hx _ => by
    rcases List.mem_cons.1 hx with rfl | hx
    · exact h3
    · exact h2 x (by simpa using hx))
  exact ⟨o, rfl, g1, ⟨⟨_, g2, by simp [Value.ownBlock]⟩, h3, fun x hx => ⟨(h4 x hx).1, Nat.lt_of_lt_of_le (h4 x hx).2 g4.size⟩⟩, g4⟩
theorem cx_done {B b : Nat} {X : List Nat} {p : List UInt8} {c : Ck} {w : World} (h : Cx B w b X p c) (hs : c.st ≤ 4) :
    Calls Tryd.prog 29 #[.pointer (some ⟨b, 0, none⟩)] w fun e w' => e = .returned (.bool (decide (c.st = 4))) ∧ w = w' := let ⟨⟨_, h1, _⟩, _, _⟩ := h; chunk_Done h1 hs
theorem cx_rest {B b : Nat} {X : List Nat} {p : List UInt8} {c : Ck} {w : World} (h : Cx B w b X p c) (hs : c.st ≤ 4) :
    Calls Tryd.prog 30 #[.pointer (some ⟨b, 0, none⟩)] w fun e w' => e = .returned (.string (S (if c.st = 4 then c.inp else []))) ∧ w = w' := let ⟨⟨_, h1, _⟩, _, _⟩ := h; chunk_Rest h1 hs
theorem cx_size {B b : Nat} {X : List Nat} {p : List UInt8} {c : Ck} {w : World} (h : Cx B w b X p c) :
    Calls Tryd.prog 31 #[.pointer (some ⟨b, 0, none⟩)] w fun e w' => e = .returned (.int .i64 (c.dat.length : Nat)) ∧ w = w' := let ⟨⟨_, h1, _⟩, _, _⟩ := h; chunk_Size h1
end Go.Proofs.YtmfnciocnlmceaaDoor

/- Layer 16: numbers in decimal, as they are written and read. Plain laws; no program. No conditions but on sizes. -/
namespace Go.Proofs.YtmfnciocnlmceaaDoor
open Go.RowKit

def digs : List UInt8 := [48, 49, 50, 51, 52, 53, 54, 55, 56, 57]
def GT : Int := 4611686018427387904
theorem digs_iff (b : UInt8) : digs.contains b = decB b := by
  unfold digs decB
  rw [Bool.eq_iff_iff]
  simp only [List.contains_iff_mem, List.mem_cons, List.not_mem_nil, or_false, Bool.and_eq_true, decide_eq_true_eq, ← UInt8.toNat_inj]
  simp
  omega
theorem dig_byte {u : Nat} (h : u < 10) : (UInt8.ofNat (48 + u)).toNat = 48 + u := by
  simp [UInt8.toNat_ofNat']; omega
theorem dig_dec {u : Nat} (h : u < 10) : decB (UInt8.ofNat (48 + u)) = true := by
  unfold decB; rw [dig_byte h]; simp; omega
theorem dec_small {u : Nat} (h : u < 10) : Lib.decDigits u = [UInt8.ofNat (48 + u)] := by rw [Lib.decDigits, dif_pos h]
theorem dec_big {u : Nat} (h : ¬ u < 10) : Lib.decDigits u = Lib.decDigits (u / 10) ++ [UInt8.ofNat (48 + u % 10)] := by rw [Lib.decDigits, dif_neg h]
theorem dec_all (u : Nat) : (Lib.decDigits u).all decB = true := by
  induction u using Nat.strongRecOn with
  | _ u ih =>
    by_cases h : u < 10
    · rw [dec_small h, List.all_cons, List.all_nil, dig_dec h]; rfl
    · rw [dec_big h, List.all_append, ih (u / 10) (by omega), List.all_cons, List.all_nil, dig_dec (show u % 10 < 10 by omega)]; rfl
theorem dec_ne (u : Nat) : Lib.decDigits u ≠ [] := by
  by_cases h : u < 10
  · rw [dec_small h]; simp
  · rw [dec_big h]; simp
theorem dec_head (u : Nat) (h1 : 1 ≤ u) : (Lib.decDigits u).head? ≠ some 48 := by
  induction u using Nat.strongRecOn with
  | _ u ih =>
    by_cases h : u < 10
    · rw [dec_small h]
      intro e
      have := congrArg UInt8.toNat (Option.some.inj e)
      rw [dig_byte h] at this
      have h48 : (48 : UInt8).toNat = 48 := rfl
      omega
    · rw [dec_big h, List.head?_append]
      have := ih (u / 10) (by omega) (by omega)
      cases hd : (Lib.decDigits (u / 10)).head? with
      | none => exact absurd (List.head?_eq_none_iff.1 hd) (dec_ne _)
      | some x => rw [hd] at this; simpa using this
theorem gather_append (m : Int) : ∀ (a b : List UInt8) (n : Int), gatherM m (a ++ b) n = (gatherM m a n).bind (gatherM m b)
  | [], b, n => rfl
  | x :: a, b, n => by
    simp only [List.cons_append, gatherM]
    split
    · exact gather_append m a b _
    · rfl
theorem digV_dig {u : Nat} (h : u < 10) : digV (UInt8.ofNat (48 + u)) = u := by
  unfold digV
  rw [dig_byte h, if_pos (by omega)]
  omega
theorem gather_dec (u : Nat) (h : (u : Int) ≤ 4611686018427387904) : gatherM 10 (Lib.decDigits u) 0 = some (u : Int) := by
  induction u using Nat.strongRecOn with
  | _ u ih =>
    by_cases h1 : u < 10
    · rw [dec_small h1]
      simp only [gatherM]
      rw [digV_dig h1, if_pos (by omega)]
      simp
    · rw [dec_big h1, gather_append, ih (u / 10) (by omega) (by omega)]
      simp only [Option.bind_some, gatherM]
      rw [digV_dig (show u % 10 < 10 by omega), if_pos (by omega)]
      congr 1
      omega
theorem dec_isDec (u : Nat) : isDecM (Lib.decDigits u) = true := by
  unfold isDecM
  rw [dec_all]
  have hn : (Lib.decDigits u).isEmpty = false := by simp [dec_ne]
  rw [hn]
  by_cases h : u < 10
  · rw [dec_small h]; simp
  · have := dec_head u (by omega)
    simp [this]
theorem undec_dec (u : Nat) (most : Int) (h : (u : Int) ≤ most) (hm : most ≤ 4611686018427387904) : undecV (Lib.decDigits u) most = u ∧ undecE (Lib.decDigits u) most = 0 := by
  unfold undecV undecE boundV boundE
  rw [dec_isDec, gather_dec u (by omega)]
  simp only [if_true]
  rw [if_neg (by omega), if_neg (by omega)]
  exact ⟨rfl, rfl⟩
theorem drop_nil {p : UInt8 → Bool} : ∀ {l : List UInt8}, l.dropWhile p = [] ↔ ∀ x ∈ l, p x = true
  | [] => by simp
  | x :: l => by
    cases h : p x with
    | true => rw [List.dropWhile_cons_of_pos h, drop_nil]; simp [h]
    | false => rw [List.dropWhile_cons_of_neg (by simp [h])]; simp [h]
theorem trim_dec {l : List UInt8} (h : l.all decB = true) : Lib.trimS l digs = [] := by
  have h1 : Lib.trimRightS l digs = [] := by
    unfold Lib.trimRightS
    rw [drop_nil.2]
    · rfl
    · intro x hx
      rw [digs_iff]
      exact List.all_eq_true.1 h x (List.mem_reverse.1 hx)
  unfold Lib.trimS
  rw [h1]; rfl
theorem trim_nodec {l : List UInt8} (h : l.all decB = false) : Lib.trimS l digs ≠ [] := by
  intro he
  obtain ⟨x, hx, hn⟩ := List.all_eq_false.1 h
  unfold Lib.trimS Lib.trimLeftS at he
  have h1 := drop_nil.1 he
  have h2 : ∀ y ∈ l, digs.contains y = true := by
    intro y hy
    unfold Lib.trimRightS at h1
    by_cases hm : y ∈ (l.reverse.dropWhile (digs.contains ·)).reverse
    · exact h1 y hm
    · have : l.reverse = l.reverse.takeWhile (digs.contains ·) ++ l.reverse.dropWhile (digs.contains ·) := (List.takeWhile_append_dropWhile).symm
      have hy' : y ∈ l.reverse := List.mem_reverse.2 hy
      rw [this] at hy'
      rcases List.mem_append.1 hy' with h3 | h3
      · exact List.all_eq_true.1 List.all_takeWhile y h3
      · exact absurd (List.mem_reverse.2 h3) hm
  have := h2 x hx
  rw [digs_iff] at this
  exact hn this

def numD (l : List UInt8) : List UInt8 := if Lib.trimLeftB l 48 = [] then [48] else Lib.trimLeftB l 48
def numN (l : List UInt8) : Int := if l = [] ∨ l.all decB = false then 0 else if undecE (numD l) GT = 14 then GT else undecV (numD l) GT
def numI (l : List UInt8) : Bool := !l.isEmpty && l.all decB
def numK (l : List UInt8) : Bool := l.all decB
theorem num_dec (u : Nat) (h : (u : Int) ≤ 4611686018427387904) : numN (Lib.decDigits u) = u ∧ numI (Lib.decDigits u) = true ∧ numK (Lib.decDigits u) = true := by
  have hd : numD (Lib.decDigits u) = Lib.decDigits u := by
    unfold numD
    by_cases h0 : u = 0
    · subst h0; rw [dec_small (by omega)]; rfl
    · have hh := dec_head u (by omega)
      have ht : Lib.trimLeftB (Lib.decDigits u) 48 = Lib.decDigits u := by
        unfold Lib.trimLeftB
        cases hc : Lib.decDigits u with
        | nil => rfl
        | cons x r =>
          rw [hc] at hh
          have : x ≠ 48 := by simpa using hh
          rw [List.dropWhile_cons_of_neg (by simpa using this)]
      rw [ht, if_neg (dec_ne u)]
  refine ⟨?_, ?_, dec_all u⟩
  · unfold numN
    rw [if_neg (by simp [dec_ne, dec_all]), hd, (undec_dec u GT h (by unfold GT; omega)).1, (undec_dec u GT h (by unfold GT; omega)).2]
    rfl
  · unfold numI; rw [dec_all]; simp [dec_ne]
end Go.Proofs.YtmfnciocnlmceaaDoor

/- Layer 16: number, isUnit. No conditions but on lengths. -/
namespace Go.Proofs.YtmfnciocnlmceaaDoor
open Go.RowKit Go.Shelf

def NumOut (w : World) (l : List UInt8) (e : Ending) (w' : World) : Prop := e = .returned (.tuple #[.agg #[.int .i64 (numN l), .bool (numI l)], .bool (numK l)]) ∧ Keep [] w w'
theorem num_ret {a c : Int} {b d x y : Bool} (h : a = c) (h2 : b = d) (h3 : x = y) : Ending.returned (.tuple #[.agg #[.int .i64 a, .bool b], .bool x]) = .returned (.tuple #[.agg #[.int .i64 c, .bool d], .bool y]) := by rw [h, h2, h3]

end Go.Proofs.YtmfnciocnlmceaaDoor

/- Layer 16: isUnit. No conditions but on lengths. -/
namespace Go.Proofs.YtmfnciocnlmceaaDoor
open Go.RowKit Go.Shelf

def unitB : List UInt8 := [98, 121, 116, 101, 115, 61]
/-- the byte of a text that stands for a byte of the unit -/
def unitOk (b c : UInt8) : Bool := c == b || decide (97 ≤ b.toNat) && decide (c.toNat = b.toNat - 32)
def isUnitM (l : List UInt8) : Bool := decide (6 ≤ l.length) && (l.zip unitB).all fun p => unitOk p.2 p.1

def unitCells : Array Value := #[.int .u8 98, .int .u8 121, .int .u8 116, .int .u8 101, .int .u8 115, .int .u8 61]
theorem unit_cell (w : World) (o : Obj) {T : TypeId} {fr : Nat × Nat} (ho : o = .cells unitCells T fr) {k : Nat} {b : UInt8} (h : unitB[k]? = some b) : (w.alloc o).cell? ⟨w.heap.size, k, none⟩ = some (.int .u8 (b.toNat : Nat)) := by
  subst ho
  have hh : (w.alloc (.cells unitCells T fr)).heap[w.heap.size]? = some (.cells unitCells T fr) := heap_alloc_new w _
  have hc : unitCells[k]? = some (.int .u8 (b.toNat : Nat)) := by
    match k, h with
    | 0, h => cases h; rfl
    | 1, h => cases h; rfl
    | 2, h => cases h; rfl
    | 3, h => cases h; rfl
    | 4, h => cases h; rfl
    | 5, h => cases h; rfl
    | k + 6, h => simp [unitB] at h
  unfold World.cell?
  simp only [hh]
  exact hc
theorem zip_take {l : List UInt8} {k : Nat} {b c : UInt8} (hb : unitB[k]? = some b) (hc : l[k]? = some c) : (l.zip unitB).take (k + 1) = (l.zip unitB).take k ++ [(c, b)] := by
  rw [List.take_add_one, (List.getElem?_zip_eq_some (z := (c, b))).2 ⟨hc, hb⟩]; rfl

end Go.Proofs.YtmfnciocnlmceaaDoor

/- Layer 10: the text of a value, in quotes or not: both sides. No conditions but on lengths. -/
namespace Go.Proofs.YtmfnciocnlmceaaDoor
open Go.RowKit Go.Shelf

/-- behind the first quote -/
def unqM : List UInt8 → List UInt8 → List UInt8 × Bool
  | [], _ => ([], false)
  | [c], out => if c.toNat = 34 then (out, true) else ([], false)
  | c :: d :: r, out => if c.toNat = 34 then (out, false) else if c.toNat = 92 then unqM r (out ++ [d]) else unqM (d :: r) (out ++ [c])
def unqQ : List UInt8 → List UInt8 × Bool
  | c :: d :: r => if c.toNat = 34 then unqM (d :: r) [] else ([], false)
  | _ => ([], false)
def unqW (s : List UInt8) : List UInt8 × Bool := if isTok s then (s, true) else unqQ s
theorem unqM_quote {c : UInt8} {r out : List UInt8} (h : c.toNat = 34) : unqM (c :: r) out = (out, r.isEmpty) := by
  cases r with
  | nil => unfold unqM; rw [if_pos h]; rfl
  | cons d r => unfold unqM; rw [if_pos h]; rfl
theorem unqM_slash {c d : UInt8} {r out : List UInt8} (h : c.toNat = 92) : unqM (c :: d :: r) out = unqM r (out ++ [d]) := by
  conv => lhs; unfold unqM
  rw [if_neg (by omega), if_pos h]
theorem unqM_slash_end {c : UInt8} {out : List UInt8} (h : c.toNat ≠ 34) : unqM [c] out = ([], false) := by
  unfold unqM; rw [if_neg h]
theorem unqM_plain {c : UInt8} {r out : List UInt8} (h : c.toNat ≠ 34) (h2 : c.toNat ≠ 92) : unqM (c :: r) out = unqM r (out ++ [c]) := by
  cases r with
  | nil => unfold unqM; rw [if_neg h]
  | cons d r =>
    conv => lhs; unfold unqM
    rw [if_neg h, if_neg h2]
theorem unqM_len : ∀ (n : Nat) (s out : List UInt8), s.length ≤ n → (unqM s out).1.length ≤ out.length + s.length
  | _, [], out, _ => by simp [unqM]
  | _, [c], out, _ => by unfold unqM; split <;> simp
  | 0, c :: d :: r, out, h => by simp at h
  | 1, c :: d :: r, out, h => by simp at h
  | n + 2, c :: d :: r, out, h => by
    unfold unqM
    split
    · simp
    · split
      · have := unqM_len n r (out ++ [d]) (by simp at h; omega)
        simp at this ⊢; omega
      · have := unqM_len (n + 1) (d :: r) (out ++ [c]) (by simp at h ⊢; omega)
        simp at this ⊢; omega
theorem unqW_len (s : List UInt8) : (unqW s).1.length ≤ s.length := by
  unfold unqW
  split
  · simp
  · unfold unqQ
    split
    · split
      · exact Nat.le_trans (unqM_len _ _ [] (Nat.le_refl _)) (by simp)
      · simp
    · simp
theorem str_ret {a c : List UInt8} {b d : Bool} (h : (a, b) = (c, d)) : Ending.returned (.tuple #[.string (S a), .bool b]) = .returned (.tuple #[.string (S c), .bool d]) := by cases h; rfl
theorem str_ret' {x : List UInt8 × Bool} {c : List UInt8} {d : Bool} (h : x = (c, d)) : Ending.returned (.tuple #[.string (S c), .bool d]) = .returned (.tuple #[.string (S x.1), .bool x.2]) := by rw [h]

end Go.Proofs.YtmfnciocnlmceaaDoor

/- Layer 10: the document's Parse, its result written out. No conditions but on lengths. -/
namespace Go.Proofs.YtmfnciocnlmceaaDoor
open Go.RowKit Go.Shelf

theorem ref_parse_is {l n v : List UInt8} {k : Int} (w : World) (hl : l.length ≤ 4611686018427387904) (hv : parseV l = ⟨n, v⟩) (he : parseE l = k) :
    Calls Tryd.prog 87 #[.string (S l)] w fun e w' => e = .returned (.tuple #[.agg #[.string (S n), .string (S v)], .int .i64 k]) ∧ Keep [] w w' := by
  have h := ref_Parse l w hl
  unfold RefParse at h
  rw [hv, he] at h
  exact h

end Go.Proofs.YtmfnciocnlmceaaDoor

/- Layer 10: the document's Split. No conditions but on lengths. -/
namespace Go.Proofs.YtmfnciocnlmceaaDoor
open Go.RowKit Go.Shelf

theorem hasSuffix_two {l : List UInt8} {a b : UInt8} : Lib.hasSuffix l [a, b] = true ↔ ∃ x, l = x ++ [a, b] := by
  unfold Lib.hasSuffix
  constructor
  · intro h
    obtain ⟨x, hx⟩ : [a, b] <:+ l := by simpa using h
    exact ⟨x, hx.symm⟩
  · rintro ⟨x, rfl⟩
    simp
theorem trimSuffix_two {x : List UInt8} {a b : UInt8} : Lib.trimSuffix (x ++ [a, b]) [a, b] = x := by
  have h : Lib.hasSuffix (x ++ [a, b]) [a, b] = true := hasSuffix_two.2 ⟨x, rfl⟩
  unfold Lib.trimSuffix
  rw [if_pos h]
  simp
/-- a line that ends in LF: as the document takes it -/
theorem line_no {l : List UInt8} (h : l.length < 2 ∨ Lib.indexByte l 13 ≠ (l.length : Int) - 2) : lineM l = none := by
  unfold lineM
  rw [if_neg]
  rintro ⟨h1, h2⟩
  obtain ⟨x, rfl⟩ := hasSuffix_two.1 h1
  rw [trimSuffix_two] at h2
  have e : Lib.indexByte (x ++ [13, 10]) 13 = x.length := by
    have hge := Lib.indexByte_ge x 13
    have hn := Lib.indexByte_none (l := x) (c := 13) (by omega)
    refine indexByte_at (by simp) fun j hj => ?_
    rw [List.getElem?_append_left hj]
    exact hn j
  rw [e] at h
  simp at h
  omega
theorem line_yes {l : List UInt8} (hn : l[l.length - 1]? = some 10) (h1 : 2 ≤ l.length) (h : Lib.indexByte l 13 = (l.length : Int) - 2) : lineM l = some (l.take (l.length - 2)) := by
  have h2 : Lib.indexByte l 13 = ((l.length - 2 : Nat) : Int) := by rw [h]; omega
  obtain ⟨h3, h4⟩ := Lib.indexByte_some h2
  have e : l = l.take (l.length - 2) ++ [13, 10] := by
    have e1 : l.drop (l.length - 2) = [13, 10] := by
      rw [drop_at h3, show l.length - 2 + 1 = l.length - 1 by omega, drop_at hn]
      simp; omega
    rw [← e1, List.take_append_drop]
  have hs : Lib.hasSuffix l [13, 10] = true := hasSuffix_two.2 ⟨_, e⟩
  have ht : Lib.trimSuffix l [13, 10] = l.take (l.length - 2) := by
    conv => lhs; rw [e]
    exact trimSuffix_two
  unfold lineM
  rw [ht, if_pos]
  refine ⟨hs, ?_⟩
  rw [indexByte_no]
  · omega
  · intro j hj
    rw [List.getElem?_take] at hj
    split at hj
    · exact h4 j (by assumption) hj
    · cases hj

theorem isEmpty_false {l : List UInt8} (h : l ≠ []) : l.isEmpty = false := by cases l <;> simp at *
theorem ret4 {a b c c' d : Value} (h : c = c') : Ending.returned (.tuple #[a, b, c, d]) = Ending.returned (.tuple #[a, b, c', d]) := by rw [h]
/-- where the document's loop stands -/
def Stage (s st : List UInt8) (F : List Fld) (n : Nat) (first : Bool) : Prop :=
  (first = true ∧ st = [] ∧ F = [] ∧ n = 0) ∨ (first = false ∧ ∃ k, readM s = loopM s st k F n ∧ 4097 - n ≤ k)

end Go.Proofs.YtmfnciocnlmceaaDoor

/- Layer 10: param, Params: both sides. No conditions but on lengths. -/
namespace Go.Proofs.YtmfnciocnlmceaaDoor
open Go.RowKit Go.Shelf

/-- a parameter; false: it is none -/
def parM (x : List UInt8) : Fld × Bool :=
  if (Lib.cut x [61]).2.2 && isTok (Lib.cut x [61]).1 then (⟨lowW (Lib.cut x [61]).1, (unqW (Lib.cut x [61]).2.1).1⟩, (unqW (Lib.cut x [61]).2.1).2) else (⟨[], []⟩, false)
def parsM : List (List UInt8) → List Fld → Option (List Fld)
  | [], out => some out
  | x :: r, out => if x = [] then parsM r out else if (parM x).2 then parsM r (out ++ [(parM x).1]) else none
structure Prm where
  hd : List UInt8
  F : List Fld
  e : Int
def paramsM (s : List UInt8) : Prm := match parsM (cutW s 59).tail [] with
  | none => ⟨[], [], 3⟩
  | some F => ⟨(cutW s 59).headD [], F, 0⟩
def ParOut (x : Fld × Bool) (w : World) (e : Ending) (w' : World) : Prop := e = .returned (.tuple #[.agg #[.string (S x.1.name), .string (S x.1.value)], .bool x.2]) ∧ Keep [] w w'

def PrmOut (w : World) (r : Prm) (e : Ending) (w' : World) : Prop := ∃ v, e = .returned (.tuple #[.string (S r.hd), v, .int .i64 r.e]) ∧ Own Fld.cells 2 w.heap.size 26 w' v r.F ∧ Keep [] w w'
theorem drop_atG {α : Type} {l : List α} {k : Nat} {c : α} (h : l[k]? = some c) : l.drop k = c :: l.drop (k + 1) := by
  obtain ⟨hl, hc⟩ := List.getElem?_eq_some_iff.1 h
  rw [List.drop_eq_getElem_cons hl, hc]
theorem trimW_len (l : List UInt8) : (trimW l).length ≤ l.length := by
  unfold trimW Lib.trimS Lib.trimLeftS Lib.trimRightS
  refine Nat.le_trans (List.dropWhile_sublist _).length_le ?_
  rw [List.length_reverse]
  refine Nat.le_trans (List.dropWhile_sublist _).length_le ?_
  simp
theorem cutM_elem (b : UInt8) (m : Nat) : ∀ (l : List UInt8) (q : Bool) (p : List UInt8), p.length + l.length ≤ m → ∀ x ∈ cutM b l q p, x.length ≤ m
  | [], q, p, h, x, hx => by
    simp [cutM] at hx
    subst hx
    have := trimW_len p
    simp at h; omega
  | [c], q, p, h, x, hx => by
    rw [cutM.eq_def] at hx; dsimp only at hx
    split at hx
    · exact cutM_elem b m [] _ _ (by simp at h ⊢; omega) x hx
    · split at hx
      · simp at hx
        subst hx
        have := trimW_len (p ++ [c])
        simp at h this; omega
      · split at hx
        · rcases List.mem_cons.1 hx with rfl | hx
          · have := trimW_len p
            simp at h; omega
          · exact cutM_elem b m [] _ _ (by simp at h ⊢) x hx
        · exact cutM_elem b m [] _ _ (by simp at h ⊢; omega) x hx
  | c :: d :: r, q, p, h, x, hx => by
    rw [cutM.eq_def] at hx; dsimp only at hx
    split at hx
    · exact cutM_elem b m (d :: r) _ _ (by simp at h ⊢; omega) x hx
    · split at hx
      · exact cutM_elem b m r _ _ (by simp at h ⊢; omega) x hx
      · split at hx
        · rcases List.mem_cons.1 hx with rfl | hx
          · have := trimW_len p
            simp at h; omega
          · exact cutM_elem b m (d :: r) _ _ (by simp at h ⊢; omega) x hx
        · exact cutM_elem b m (d :: r) _ _ (by simp at h ⊢; omega) x hx
theorem cutW_elem {l : List UInt8} {b : UInt8} {x : List UInt8} (h : x ∈ cutW l b) : x.length ≤ l.length := cutM_elem b l.length l false [] (by simp) x h

end Go.Proofs.YtmfnciocnlmceaaDoor

/- Layer 16: bounds. No conditions but on lengths. -/
namespace Go.Proofs.YtmfnciocnlmceaaDoor
open Go.RowKit Go.Shelf

structure Bds where
  ln : Int
  li : Bool
  hn : Int
  hi : Bool
  ok : Bool
def bdsM (l : List UInt8) : Bds :=
  if isUnitM l then
    let c := Lib.cut (l.drop 6) [45]
    ⟨numN c.1, numI c.1, numN c.2.1, numI c.2.1, c.2.2 && numK c.1 && numK c.2.1 && (numI c.1 || numI c.2.1) && !(numI c.1 && numI c.2.1 && decide (numN c.2.1 < numN c.1))⟩
  else ⟨0, false, 0, false, false⟩
def BdsOut (w : World) (r : Bds) (e : Ending) (w' : World) : Prop := e = .returned (.tuple #[.agg #[.int .i64 r.ln, .bool r.li], .agg #[.int .i64 r.hn, .bool r.hi], .bool r.ok]) ∧ Keep [] w w'

end Go.Proofs.YtmfnciocnlmceaaDoor

/- Layer 16: Parse. No conditions but on lengths. -/
namespace Go.Proofs.YtmfnciocnlmceaaDoor
open Go.RowKit Go.Shelf

def rangeB : List UInt8 := [82, 97, 110, 103, 101]
structure Prt where
  kind : Int
  a : Int
  b : Int
  deriving DecidableEq
/-- what is asked for -/
def prtM (n : Int) (r : Bds) (size : Int) : Prt :=
  if n ≠ 1 ∨ r.ok = false then ⟨1, 0, max size 0 - 1⟩
  else if size ≤ 0 ∨ size ≤ r.ln ∨ (r.li = false ∧ r.hn = 0) then ⟨3, 0, 0⟩
  else if r.li = false then ⟨2, size - min r.hn size, max size 0 - 1⟩
  else if r.hi then ⟨2, r.ln, min r.hn (max size 0 - 1)⟩
  else ⟨2, r.ln, max size 0 - 1⟩
def parseM (L : List Fld) (size : Int) : Prt := prtM (getN L rangeB) (bdsM (getV L rangeB)) size

theorem numN_range (l : List UInt8) : 0 ≤ numN l ∧ numN l ≤ GT := by
  have h := undec_range (numD l) GT
  unfold numN
  have hG : GT = 4611686018427387904 := rfl
  split
  · omega
  · split
    · omega
    · by_cases h0 : undecE (numD l) GT = 0
      · exact h.1 h0
      · have := (h.2 h0).1; omega
theorem bds_range (l : List UInt8) : 0 ≤ (bdsM l).ln ∧ 0 ≤ (bdsM l).hn ∧ (bdsM l).ln ≤ GT ∧ (bdsM l).hn ≤ GT := by
  have hG : GT = 4611686018427387904 := rfl
  unfold bdsM
  split
  · exact ⟨(numN_range _).1, (numN_range _).1, (numN_range _).2, (numN_range _).2⟩
  · exact ⟨by decide, by decide, by decide, by decide⟩
theorem prt_ret {r : Prt} {a b c : Int} (h : r = ⟨a, b, c⟩) : Ending.returned (.tuple #[.int .i64 a, .int .i64 b, .int .i64 c]) = .returned (.tuple #[.int .i64 r.kind, .int .i64 r.a, .int .i64 r.b]) := by rw [h]

end Go.Proofs.YtmfnciocnlmceaaDoor

/- Layer 1: numbers in decimal are written. No conditions but on the numbers' table. -/
namespace Go.Proofs.YtmfnciocnlmceaaDoor
open Go.RowKit Go.Shelf

/-- the library's table of powers of ten is as it was laid -/
def P10 (w : World) : Prop := Lib.TabIs Tryd.prog w "internal/strconv.uint64pow10" .u64 Lib.pow10Tab
theorem P10.keep {w w' : World} {S : List Nat} (h : P10 w) (k : Keep S w w') (hn : ∀ g, Tryd.prog.globalNamed "internal/strconv.uint64pow10" = some g → g ∉ S) : P10 w' := by
  unfold P10 Lib.TabIs World.var? at *
  cases hg : Tryd.prog.globalNamed "internal/strconv.uint64pow10" with
  | none => simp [hg] at h
  | some g =>
    try rw [hg] at h
    simp only [Option.bind_some] at h ⊢
    cases ho : w.heap[g]? with
    | none => rw [ho] at h; simp at h
    | some o =>
      rw [k.heap ho (hn g hg)]
      rw [ho] at h
      exact h
theorem P10.keep0 {w w' : World} (h : P10 w) (k : Keep [] w w') : P10 w' := h.keep k (by simp)
theorem laid_at {P : Program} {W : World} {name : String} {k : IntKind} {zs : List Int} {g : Nat} {t e : TypeId} {n : Nat}
    (hg : P.globalNamed name = some g) (hty : (P.globals[g]?).map (·.type) = some t) (ht : P.underlying t = some (.array n e)) (he : P.underlying e = some (.int k)) (hce : P.cellsOf e = 1) (hct : P.cellsOf t = n) :
    ∀ {laid : List (String × DataW Unit)} {ps : List MemPlace}, (name, Lib.tabData k zs) ∈ laid → DataW.LaidVars P W laid ps → Lib.TabIs P W name k zs
  | [], ps, hm, _ => by simp at hm
  | x :: r, ps, hm, h => by
    obtain ⟨g', t', cs, fuel, p, q, hg', ht', hvar, hd, hr, _⟩ := h
    rcases List.mem_cons.1 hm with e | hm
    · subst e
      obtain rfl := Option.some.inj (hg.symm.trans hg')
      obtain rfl := Option.some.inj (hty.symm.trans ht')
      unfold Lib.TabIs
      rw [hvar, ← Lib.cells_of_tab ht he hce hct hd]
    · exact laid_at hg hty ht he hce hct hm hr
theorem P10.laid {W : World} {laid : List (String × DataW Unit)} (h : laidMet Tryd.prog laid W) (hm : ("internal/strconv.uint64pow10", Lib.tabData .u64 Lib.pow10Tab) ∈ laid := by first | (repeat (first | exact List.Mem.head _ | exact List.Mem.tail _ (List.Mem.head _) | exact List.Mem.tail _ (List.Mem.tail _ (List.Mem.head _)))) | simp) : P10 W := by
  obtain ⟨ps, h, _⟩ := h
  exact laid_at (g := 1) (t := 154) (e := 121) (n := 20) (by kernel_rfl) rfl (by kernel_rfl) (by kernel_rfl) (by kernel_rfl) (by kernel_rfl) hm h
theorem keep_grow (w : World) (k : Nat) (os : Array Obj) : Keep [] w (Sort.grow (w.drewN k) os) :=
  ⟨rfl, rfl, rfl, by simp [Sort.grow, World.drewN], fun i hi _ => by
    show (w.heap ++ os)[i]? = w.heap[i]?
    rw [Array.getElem?_append_left hi]⟩
theorem hexa_Dec (n : Int) (w : World) (hn : in64 n) (hp : P10 w) :
    Calls Tryd.prog 47 #[.int .i64 n] w fun e w' => e = .returned (.string (S (Lib.itoa n))) ∧ Keep [] w w' := by
  have hI := Lib.hid (fun w' (k : Keep [] w w') => Tryd.strconv_Itoa n hn.1 hn.2 w' (hp.keep0 k))
  go_enter Tryd.func47, Tryd.ntmps47
  go_wp2_with fail
  refine (hI.out _ (Keep.refl _ _)).mono ?_
  rintro e w1 ⟨rfl, k, os, rfl⟩
  have hk := keep_grow w k os
  generalize Sort.grow (w.drewN k) os = w1 at hk
  go_wp2_with fail
  go_ret
  exact ⟨rfl, hk⟩
theorem itoa_len (n : Int) (h : in64 n) : (Lib.itoa n).length ≤ 21 := Lib.itoa_length_le n h.1 h.2
/-- 'bytes ' -/
def saidB : List UInt8 := [98, 121, 116, 101, 115, 32]
def prnOk (a b n : Int) : Bool := decide (0 ≤ a) && decide (a ≤ b) && decide (b < n) && decide (n ≤ 4611686018427387904)
/-- a part as it is written -/
def prnS (a b n : Int) : List UInt8 := if prnOk a b n then saidB ++ Lib.itoa a ++ [45] ++ Lib.itoa b ++ [47] ++ Lib.itoa n else []
def prnE (a b n : Int) : Int := if prnOk a b n then 0 else 1
def unmetS (n : Int) : List UInt8 := [98, 121, 116, 101, 115, 32, 42, 47] ++ Lib.itoa (max n 0)

end Go.Proofs.YtmfnciocnlmceaaDoor

/- Layer 16: what the statements are awake to; the statements' own decimal numbers. No conditions but on sizes. -/
namespace Go.Proofs.YtmfnciocnlmceaaDoor
open Go.RowKit Go.Shelf

theorem cut_by (a b : List UInt8) (c : UInt8) (h : c ∉ a) : Lib.cut (a ++ c :: b) [c] = (a, b, true) := by
  unfold Lib.cut
  have hi : Lib.index (a ++ c :: b) [c] = (a.length : Int) := by
    rw [Lib.index_one]
    refine indexByte_at (by simp) (fun j hj => ?_)
    rw [List.getElem?_append_left hj]
    intro e
    exact h (List.mem_of_getElem? e)
  rw [hi, if_pos (by omega)]
  simp
theorem dec_no (u : Nat) {c : UInt8} (h : decB c = false) : c ∉ Lib.decDigits u := fun hm => by
  have := List.all_eq_true.1 (dec_all u) c hm
  rw [h] at this
  cases this
theorem unit_pre {u : List UInt8} (h6 : u.length = 6) (hu : (u.zip unitB).all (fun p => unitOk p.2 p.1) = true) (r : List UInt8) : isUnitM (u ++ r) = true ∧ (u ++ r).drop 6 = r := by
  refine ⟨?_, by rw [List.drop_append_of_le_length (by omega), List.drop_of_length_le (by omega)]; rfl⟩
  unfold isUnitM
  have : (u ++ r).zip unitB = u.zip unitB := by
    have e : unitB = unitB ++ [] := (List.append_nil _).symm
    rw [e, List.zip_append (by rw [h6]; rfl), List.zip_nil_right]
    simp
  rw [this, hu]
  simp; omega
/-- what a Range of two numbers is -/
theorem bds_of {u a b : List UInt8} (h6 : u.length = 6) (hu : (u.zip unitB).all (fun p => unitOk p.2 p.1) = true) (ha : (45 : UInt8) ∉ a) :
    bdsM (u ++ (a ++ 45 :: b)) = ⟨numN a, numI a, numN b, numI b, true && numK a && numK b && (numI a || numI b) && !(numI a && numI b && decide (numN b < numN a))⟩ := by
  unfold bdsM
  obtain ⟨h1, h2⟩ := unit_pre h6 hu (a ++ 45 :: b)
  rw [if_pos h1]
  simp only [h2, cut_by a b 45 ha]
theorem ask_get (l : List UInt8) : getV [⟨rangeB, l⟩] rangeB = l ∧ getN [⟨rangeB, l⟩] rangeB = 1 := by
  have : getS [⟨rangeB, l⟩] rangeB = [⟨rangeB, l⟩] := by
    unfold getS
    rw [List.filter_cons_of_pos (by simp [sameN]), List.filter_nil]
  unfold getV getN
  rw [this]
  exact ⟨rfl, rfl⟩
theorem ask_parse (l : List UInt8) (size : Int) : parseM [⟨rangeB, l⟩] size = prtM 1 (bdsM l) size := by
  unfold parseM
  rw [(ask_get l).1, (ask_get l).2]
  rfl

theorem nat_mod (n : Nat) : ((n : Int)).tmod 10 = ((n % 10 : Nat) : Int) := by rw [Int.tmod_eq_emod_of_nonneg (by omega)]; omega
theorem nat_div (n : Nat) : ((n : Int)).tdiv 10 = ((n / 10 : Nat) : Int) := by rw [Int.tdiv_eq_ediv_of_nonneg (by omega)]; omega
theorem dig_cut {r : Nat} (h : r < 10) : (⟨#[48, 49, 50, 51, 52, 53, 54, 55, 56, 57]⟩ : ByteArray).extract r (r + 1) = S [UInt8.ofNat (48 + r)] := by
  have : ∀ r : Fin 10, (⟨#[48, 49, 50, 51, 52, 53, 54, 55, 56, 57]⟩ : ByteArray).extract r.1 (r.1 + 1) = S [UInt8.ofNat (48 + r.1)] := by decide +kernel
  exact this ⟨r, h⟩
def decI (first : Bool) (n : Nat) : List UInt8 := if first = true ∨ 0 < n then Lib.decDigits n else []
theorem decI_step (first : Bool) (n : Nat) (h : first = true ∨ 0 < n) : decI first n = decI false (n / 10) ++ [UInt8.ofNat (48 + n % 10)] := by
  unfold decI
  rw [if_pos h]
  by_cases h1 : n < 10
  · rw [dec_small h1, if_neg (by simp; omega), Nat.mod_eq_of_lt h1]; rfl
  · rw [dec_big h1, if_pos (by right; omega)]

end Go.Proofs.YtmfnciocnlmceaaDoor

/- Layer 16: what the statements are awake to; the statement SliceCovers: its function answers true for every input. No conditions but on the library's tables. -/
namespace Go.Proofs.YtmfnciocnlmceaaDoor
open Go.RowKit Go.Shelf

def q1 : List UInt8 := [98, 121, 116, 101, 115, 61, 50, 45, 52]
def q2 : List UInt8 := [98, 121, 116, 101, 115, 61, 45, 51]
def q3 : List UInt8 := [98, 121, 116, 101, 115, 61, 49, 48, 45]
def q4 : List UInt8 := [98, 121, 116, 101, 115, 61, 49, 45, 50, 44, 52, 45, 53]
theorem awake16_parse : prtM 1 (bdsM q1) 10 = ⟨2, 2, 4⟩ ∧ prtM 1 (bdsM q2) 10 = ⟨2, 7, 9⟩ ∧ prtM 1 (bdsM q3) 10 = ⟨3, 0, 0⟩ ∧ prtM 1 (bdsM q4) 10 = ⟨1, 0, 9⟩ := by decide +kernel
theorem itoa_10 : Lib.itoa 10 = [49, 48] := by
  have := Lib.itoa_nonneg 10
  rw [show ((10 : Nat) : Int) = 10 from rfl] at this
  rw [this, dec_big (by omega), dec_small (by omega)]
  rfl
theorem itoa_1 {n : Nat} (h : n < 10) : Lib.itoa (n : Int) = [UInt8.ofNat (48 + n)] := by rw [Lib.itoa_nonneg, dec_small h]
theorem awake16_print : prnS 2 4 10 = [98, 121, 116, 101, 115, 32, 50, 45, 52, 47, 49, 48] ∧ prnE 2 4 10 = 0 ∧ unmetS 10 = [98, 121, 116, 101, 115, 32, 42, 47, 49, 48] := by
  have h2 : Lib.itoa 2 = [50] := itoa_1 (n := 2) (by omega)
  have h4 : Lib.itoa 4 = [52] := itoa_1 (n := 4) (by omega)
  refine ⟨?_, rfl, ?_⟩
  · unfold prnS
    rw [if_pos (show prnOk 2 4 10 = true by decide), h2, h4, itoa_10]; rfl
  · unfold unmetS
    rw [show max (10 : Int) 0 = 10 from rfl, itoa_10]; rfl

def unitC : List UInt8 := [66, 121, 116, 101, 115, 61]
theorem num_zero : numN [48] = 0 ∧ numI [48] = true ∧ numK [48] = true ∧ numN [] = 0 ∧ numI [] = false ∧ numK [] = true := by decide +kernel
/-- the three parts that are asked for -/
theorem covers_plain (size n : Nat) (h2 : 2 ≤ size) (hs : (size : Int) ≤ 4611686018427387904) (h1 : 1 ≤ n) (hn : n < size) :
    prtM 1 (bdsM (unitB ++ ([48] ++ 45 :: Lib.decDigits (n - 1)))) size = ⟨2, 0, (n : Int) - 1⟩ ∧ prtM 1 (bdsM (unitB ++ (Lib.decDigits n ++ 45 :: []))) size = ⟨2, n, (size : Int) - 1⟩ ∧ prtM 1 (bdsM (unitC ++ ([] ++ 45 :: Lib.decDigits (size - n)))) size = ⟨2, n, (size : Int) - 1⟩ := by
  obtain ⟨z1, z2, z3, z4, z5, z6⟩ := num_zero
  have hB : (unitB.zip unitB).all (fun p => unitOk p.2 p.1) = true := by decide
  have hC : (unitC.zip unitB).all (fun p => unitOk p.2 p.1) = true := by decide
  refine ⟨?_, ?_, ?_⟩
  · obtain ⟨n1, n2, n3⟩ := num_dec (n - 1) (by omega)
    rw [bds_of rfl hB (by decide), z1, z2, z3, n1, n2, n3]
    unfold prtM
    dsimp only
    rw [if_neg (by simp <;> omega), if_neg (by simp <;> omega), if_neg (by simp), if_pos rfl]
    congr 1
    omega
  · obtain ⟨n1, n2, n3⟩ := num_dec n (by omega)
    rw [bds_of rfl hB (dec_no n (by decide)), z4, z5, z6, n1, n2, n3]
    unfold prtM
    dsimp only
    rw [if_neg (by simp), if_neg (by simp <;> omega), if_neg (by simp), if_neg (by simp)]
    congr 1
    omega
  · obtain ⟨n1, n2, n3⟩ := num_dec (size - n) (by omega)
    rw [bds_of rfl hC (by simp), z4, z5, z6, n1, n2, n3]
    unfold prtM
    dsimp only
    rw [if_neg (by simp), if_neg (by simp <;> omega), if_pos rfl]
    congr 1
    · omega
    · omega
end Go.Proofs.YtmfnciocnlmceaaDoor

/- Layer 16: Read. No conditions but on lengths and the library's tables. -/
namespace Go.Proofs.YtmfnciocnlmceaaDoor
open Go.RowKit Go.Shelf

/-- what a Content-Range is read as -/
structure Rd3 where
  a : Int
  b : Int
  c : Int
  e : Int
  deriving DecidableEq
/-- the three texts -/
def rdA (l : List UInt8) : List UInt8 := (Lib.cut (Lib.trimPrefix l saidB) [45]).1
def rdB (l : List UInt8) : List UInt8 := (Lib.cut (Lib.cut (Lib.trimPrefix l saidB) [45]).2.1 [47]).1
def rdC (l : List UInt8) : List UInt8 := (Lib.cut (Lib.cut (Lib.trimPrefix l saidB) [45]).2.1 [47]).2.1
def rdcM (l : List UInt8) : Rd3 :=
  if undecE (rdA l) 4611686018427387904 ≠ 0 then ⟨0, 0, 0, 3⟩ else if undecE (rdB l) 4611686018427387904 ≠ 0 then ⟨0, 0, 0, 3⟩ else if undecE (rdC l) 4611686018427387904 ≠ 0 then ⟨0, 0, 0, 3⟩
  else if prnE (undecV (rdA l) 4611686018427387904) (undecV (rdB l) 4611686018427387904) (undecV (rdC l) 4611686018427387904) ≠ 0 ∨ prnS (undecV (rdA l) 4611686018427387904) (undecV (rdB l) 4611686018427387904) (undecV (rdC l) 4611686018427387904) ≠ l then ⟨0, 0, 0, 3⟩
  else ⟨undecV (rdA l) 4611686018427387904, undecV (rdB l) 4611686018427387904, undecV (rdC l) 4611686018427387904, 0⟩
def Rd3.asV (r : Rd3) : Value := .tuple #[.int .i64 r.a, .int .i64 r.b, .int .i64 r.c, .int .i64 r.e]
theorem trim_len (l p : List UInt8) : (Lib.trimPrefix l p).length ≤ l.length := by
  unfold Lib.trimPrefix
  split <;> simp

end Go.Proofs.YtmfnciocnlmceaaDoor

/- Layer 16: what is written is read as it was. Plain laws; arrays of three numbers. No conditions. -/
namespace Go.Proofs.YtmfnciocnlmceaaDoor
open Go.RowKit Go.Shelf

theorem trim_pre (p r : List UInt8) : Lib.trimPrefix (p ++ r) p = r := by
  unfold Lib.trimPrefix Lib.hasPrefix
  simp
theorem prn_nat {a b c : Int} (h : prnOk a b c = true) : ∃ x y z : Nat, a = x ∧ b = y ∧ c = z ∧ (x : Int) ≤ 4611686018427387904 ∧ (y : Int) ≤ 4611686018427387904 ∧ (z : Int) ≤ 4611686018427387904 := by
  unfold prnOk at h
  simp only [Bool.and_eq_true, decide_eq_true_eq] at h
  exact ⟨a.toNat, b.toNat, c.toNat, by omega, by omega, by omega, by omega, by omega, by omega⟩
theorem prn_parts {x y z : Nat} (h : prnOk x y z = true) : rdA (prnS x y z) = Lib.decDigits x ∧ rdB (prnS x y z) = Lib.decDigits y ∧ rdC (prnS x y z) = Lib.decDigits z := by
  have e : prnS x y z = saidB ++ (Lib.decDigits x ++ 45 :: (Lib.decDigits y ++ 47 :: Lib.decDigits z)) := by
    unfold prnS
    rw [if_pos h, Lib.itoa_nonneg, Lib.itoa_nonneg, Lib.itoa_nonneg]
    simp
  unfold rdA rdB rdC
  rw [e, trim_pre, cut_by _ _ _ (dec_no x (by decide)), cut_by _ _ _ (dec_no y (by decide))]
  exact ⟨rfl, rfl, rfl⟩
theorem rdc_ok {a b c : Int} (h : prnOk a b c = true) : rdcM (prnS a b c) = ⟨a, b, c, 0⟩ := by
  obtain ⟨x, y, z, rfl, rfl, rfl, h1, h2, h3⟩ := prn_nat h
  obtain ⟨p1, p2, p3⟩ := prn_parts h
  obtain ⟨u1, u2⟩ := undec_dec x 4611686018427387904 h1 (by omega)
  obtain ⟨u3, u4⟩ := undec_dec y 4611686018427387904 h2 (by omega)
  obtain ⟨u5, u6⟩ := undec_dec z 4611686018427387904 h3 (by omega)
  unfold rdcM
  rw [p1, p2, p3, u1, u2, u3, u4, u5, u6, if_neg (by simp), if_neg (by simp), if_neg (by simp), if_neg]
  have : prnE x y z = 0 := by unfold prnE; rw [if_pos h]
  simp [this]
theorem rdc_or (l : List UInt8) : rdcM l = ⟨0, 0, 0, 3⟩ ∨ ∃ a b c, rdcM l = ⟨a, b, c, 0⟩ ∧ prnOk a b c = true ∧ prnS a b c = l := by
  unfold rdcM
  split
  · exact .inl rfl
  · split
    · exact .inl rfl
    · split
      · exact .inl rfl
      · split
        · exact .inl rfl
        · rename_i h
          refine .inr ⟨_, _, _, rfl, ?_, ?_⟩
          · have h1 : prnE (undecV (rdA l) 4611686018427387904) (undecV (rdB l) 4611686018427387904) (undecV (rdC l) 4611686018427387904) = 0 := by
              by_cases hz : prnE (undecV (rdA l) 4611686018427387904) (undecV (rdB l) 4611686018427387904) (undecV (rdC l) 4611686018427387904) = 0
              · exact hz
              · exact absurd (Or.inl hz) h
            unfold prnE at h1
            split at h1
            · assumption
            · cases h1
          · by_cases hz : prnS (undecV (rdA l) 4611686018427387904) (undecV (rdB l) 4611686018427387904) (undecV (rdC l) 4611686018427387904) = l
            · exact hz
            · exact absurd (Or.inr hz) h
theorem prnE_iff (a b c : Int) : prnE a b c = 0 ↔ prnOk a b c = true := by
  unfold prnE
  split
  · rename_i h; simp [h]
  · rename_i h; simp [h]
theorem prn_inj {a b c a' b' c' : Int} (h : prnOk a b c = true) (h' : prnOk a' b' c' = true) : prnS a b c = prnS a' b' c' ↔ (a = a' ∧ b = b' ∧ c = c') := by
  constructor
  · intro e
    have h1 := rdc_ok h
    rw [e, rdc_ok h'] at h1
    injection h1 with e1 e2 e3
    exact ⟨e1.symm, e2.symm, e3.symm⟩
  · rintro ⟨rfl, rfl, rfl⟩; rfl
end Go.Proofs.YtmfnciocnlmceaaDoor

/- Layer 10: Frame. No conditions but on lengths. -/
namespace Go.Proofs.YtmfnciocnlmceaaDoor
open Go.RowKit Go.Shelf

def nTE : List UInt8 := [84, 114, 97, 110, 115, 102, 101, 114, 45, 69, 110, 99, 111, 100, 105, 110, 103]
def nCL : List UInt8 := [67, 111, 110, 116, 101, 110, 116, 45, 76, 101, 110, 103, 116, 104]
def nChunked : List UInt8 := [99, 104, 117, 110, 107, 101, 100]
/-- how a body is framed: its length, whether in chunks, the error -/
structure Frm where
  n : Int
  ch : Bool
  e : Int
def frameM (L : List Fld) (most : Int) : Frm :=
  if 1 < getN L nTE ∨ 1 < getN L nCL ∨ 1 < getN L nTE + getN L nCL then ⟨0, false, 3⟩
  else if getN L nTE = 1 then (if lowW (getV L nTE) = nChunked then ⟨0, true, 0⟩ else ⟨0, false, 3⟩)
  else if getN L nCL = 0 then ⟨-1, false, 0⟩
  else ⟨undecV (getV L nCL) most, false, if undecE (getV L nCL) most = 14 then 4 else undecE (getV L nCL) most⟩
theorem frm_ret {a c : Int} {b d : Bool} {x y : Int} (h : a = c) (h2 : b = d) (h3 : x = y) : Ending.returned (.tuple #[.int .i64 a, .bool b, .int .i64 x]) = .returned (.tuple #[.int .i64 c, .bool d, .int .i64 y]) := by rw [h, h2, h3]
theorem getV_len {L : List Fld} {n : List UInt8} {m : Nat} (h : ∀ x ∈ L, x.value.length ≤ m) : (getV L n).length ≤ m := by
  unfold getV
  cases hg : getS L n with
  | nil => simp
  | cons f r =>
    have : f ∈ getS L n := by rw [hg]; simp
    exact h f (List.mem_filter.1 this).1

set_option maxRecDepth 100000 in
set_option maxHeartbeats 1000000 in
theorem field_Frame (va : Value) (L : List Fld) (most : Int) (w : World) (ha : Sl Fld.cells 2 w va L) (hg : ∀ x ∈ L, x.name.length ≤ maxLen) (hv : ∀ x ∈ L, x.value.length ≤ maxLen) (_ : L.length ≤ 4611686018427387904) :
    Calls Tryd.prog 95 #[va, .int .i64 most] w fun e w' => e = .returned (.tuple #[.int .i64 (frameM L most).n, .bool (frameM L most).ch, .int .i64 (frameM L most).e]) ∧ Keep [] w w' := by
  have HG1 := Lib.hid (field_Get va L nTE w ha hg (by decide))
  have HG2 := Lib.hid (fun w1 (k : Keep [] w w1) => field_Get va L nCL w1 (ha.keep Fld.cells_length (by omega) ha k (by simp) (Nat.le_refl _)) hg (by decide))
  have hL := fun w1 => field_low (getV L nTE) w1 (getV_len hv)
  have hU := fun w1 => hexa_Undec (getV L nCL) most w1 (getV_len hv)
  have hF : frameM L most = if 1 < getN L nTE ∨ 1 < getN L nCL ∨ 1 < getN L nTE + getN L nCL then ⟨0, false, 3⟩
    else if getN L nTE = 1 then (if lowW (getV L nTE) = nChunked then ⟨0, true, 0⟩ else ⟨0, false, 3⟩)
    else if getN L nCL = 0 then ⟨-1, false, 0⟩
    else ⟨undecV (getV L nCL) most, false, if undecE (getV L nCL) most = 14 then 4 else undecE (getV L nCL) most⟩ := rfl
  have b1 := getN_le L nTE
  have b2 := getN_le L nCL
  unfold GetOut at HG1 HG2
  generalize frameM L most = f at hF
  generalize getV L nTE = tv at hL hF HG1
  generalize getV L nCL = cv at hU hF HG2
  generalize getN L nTE = tn at hF b1 HG1
  generalize getN L nCL = cn at hF b2 HG2
  obtain ⟨fn, fc, fe⟩ := f
  dsimp only
  clear ha hg hv
  by_cases h1 : 1 < tn ∨ 1 < cn ∨ 1 < tn + cn
  · rw [if_pos h1] at hF
    have HF := Lib.hid hF
    clear hF hL hU
    by_cases t1 : 1 < tn
    · clear h1
      go_enter Tryd.func95, Tryd.ntmps95
      go_wp2_with fail
      refine HG1.out.mono ?_
      rintro e w1 ⟨rfl, hk1⟩
      have K1 := Lib.hid hk1
      clear hk1
      go_wp2_with fail
      refine (HG2.out _ K1.out).mono ?_
      rintro e w2 ⟨rfl, hk2⟩
      have K2 := Lib.hid (K1.out.trans hk2)
      clear hk2
      go_wp2_with fail
      go_ret3
      exact ⟨frm_ret (by cases HF.out; rfl) (by cases HF.out; rfl) (by cases HF.out; rfl), K2.out⟩
    · by_cases t2 : 1 < cn
      · clear h1
        go_enter Tryd.func95, Tryd.ntmps95
        go_wp2_with fail
        refine HG1.out.mono ?_
        rintro e w1 ⟨rfl, hk1⟩
        have K1 := Lib.hid hk1
        clear hk1
        go_wp2_with fail
        refine (HG2.out _ K1.out).mono ?_
        rintro e w2 ⟨rfl, hk2⟩
        have K2 := Lib.hid (K1.out.trans hk2)
        clear hk2
        go_wp2_with fail
        go_ret3
        exact ⟨frm_ret (by cases HF.out; rfl) (by cases HF.out; rfl) (by cases HF.out; rfl), K2.out⟩
      · have t3 : 1 < tn + cn := by omega
        clear h1
        go_enter Tryd.func95, Tryd.ntmps95
        go_wp2_with fail
        refine HG1.out.mono ?_
        rintro e w1 ⟨rfl, hk1⟩
        have K1 := Lib.hid hk1
        clear hk1
        go_wp2_with fail
        refine (HG2.out _ K1.out).mono ?_
        rintro e w2 ⟨rfl, hk2⟩
        have K2 := Lib.hid (K1.out.trans hk2)
        clear hk2
        go_wp2_with fail
        go_ret3
        exact ⟨frm_ret (by cases HF.out; rfl) (by cases HF.out; rfl) (by cases HF.out; rfl), K2.out⟩
  · rw [if_neg h1] at hF
    have t1 : tn ≤ 1 := by omega
    have t2 : cn ≤ 1 := by omega
    have t3 : tn + cn ≤ 1 := by omega
    clear h1
    by_cases t4 : tn = 1
    · rw [if_pos t4] at hF
      obtain ⟨q1, q2⟩ := int_eq (show ((tn : Nat) : Int) = 1 by omega)
      have q5 := S_toList (lowW tv)
      by_cases hc : lowW tv = nChunked
      · rw [if_pos hc] at hF
        have q3 : (lowW tv == [99, 104, 117, 110, 107, 101, 100]) = true := by rw [hc]; rfl
        have q4 : (lowW tv != [99, 104, 117, 110, 107, 101, 100]) = false := by rw [hc]; rfl
        have HF := Lib.hid hF
        have HL := Lib.hid hL
        clear hF hL hU t4 hc
        go_enter Tryd.func95, Tryd.ntmps95
        go_wp2_with fail
        refine HG1.out.mono ?_
        rintro e w1 ⟨rfl, hk1⟩
        have K1 := Lib.hid hk1
        clear hk1
        go_wp2_with fail
        refine (HG2.out _ K1.out).mono ?_
        rintro e w2 ⟨rfl, hk2⟩
        have K2 := Lib.hid (K1.out.trans hk2)
        clear hk2
        go_wp2_with fail
        refine (HL.out _).mono ?_
        rintro e w3 ⟨rfl, hk3⟩
        have K3 := Lib.hid (K2.out.trans hk3)
        clear hk3
        go_wp2_with fail
        go_ret3
        exact ⟨frm_ret (by cases HF.out; rfl) (by cases HF.out; rfl) (by cases HF.out; rfl), K3.out⟩
      · rw [if_neg hc] at hF
        have q3 : (lowW tv == [99, 104, 117, 110, 107, 101, 100]) = false := beq_eq_false_iff_ne.2 hc
        have q4 : (lowW tv != [99, 104, 117, 110, 107, 101, 100]) = true := bne_iff_ne.2 hc
        have HF := Lib.hid hF
        have HL := Lib.hid hL
        clear hF hL hU t4 hc
        go_enter Tryd.func95, Tryd.ntmps95
        go_wp2_with fail
        refine HG1.out.mono ?_
        rintro e w1 ⟨rfl, hk1⟩
        have K1 := Lib.hid hk1
        clear hk1
        go_wp2_with fail
        refine (HG2.out _ K1.out).mono ?_
        rintro e w2 ⟨rfl, hk2⟩
        have K2 := Lib.hid (K1.out.trans hk2)
        clear hk2
        go_wp2_with fail
        refine (HL.out _).mono ?_
        rintro e w3 ⟨rfl, hk3⟩
        have K3 := Lib.hid (K2.out.trans hk3)
        clear hk3
        go_wp2_with fail
        go_ret3
        exact ⟨frm_ret (by cases HF.out; rfl) (by cases HF.out; rfl) (by cases HF.out; rfl), K3.out⟩
    · rw [if_neg t4] at hF
      obtain ⟨q1, q2⟩ := int_ne (show ((tn : Nat) : Int) ≠ 1 by omega)
      by_cases t5 : cn = 0
      · rw [if_pos t5] at hF
        obtain ⟨q3, q4⟩ := int_eq (show ((cn : Nat) : Int) = 0 by omega)
        have HF := Lib.hid hF
        clear hF hL hU t4 t5
        go_enter Tryd.func95, Tryd.ntmps95
        go_wp2_with fail
        refine HG1.out.mono ?_
        rintro e w1 ⟨rfl, hk1⟩
        have K1 := Lib.hid hk1
        clear hk1
        go_wp2_with fail
        refine (HG2.out _ K1.out).mono ?_
        rintro e w2 ⟨rfl, hk2⟩
        have K2 := Lib.hid (K1.out.trans hk2)
        clear hk2
        go_wp2_with fail
        go_ret3
        exact ⟨frm_ret (by cases HF.out; rfl) (by cases HF.out; rfl) (by cases HF.out; rfl), K2.out⟩
      · rw [if_neg t5] at hF
        obtain ⟨q3, q4⟩ := int_ne (show ((cn : Nat) : Int) ≠ 0 by omega)
        generalize undecV cv most = uv at hF hU
        generalize undecE cv most = ue at hF hU
        have HU := Lib.hid hU
        by_cases h14 : ue = 14
        · rw [if_pos h14] at hF
          obtain ⟨q5, q6⟩ := int_eq h14
          have HF := Lib.hid hF
          clear hF hL hU t4 t5 h14
          go_enter Tryd.func95, Tryd.ntmps95
          go_wp2_with fail
          refine HG1.out.mono ?_
          rintro e w1 ⟨rfl, hk1⟩
          have K1 := Lib.hid hk1
          clear hk1
          go_wp2_with fail
          refine (HG2.out _ K1.out).mono ?_
          rintro e w2 ⟨rfl, hk2⟩
          have K2 := Lib.hid (K1.out.trans hk2)
          clear hk2
          go_wp2_with fail
          refine (HU.out _).mono ?_
          rintro e w3 ⟨rfl, hk3⟩
          have K3 := Lib.hid (K2.out.trans hk3)
          clear hk3
          go_wp2_with fail
          go_ret3
          exact ⟨frm_ret (by cases HF.out; rfl) (by cases HF.out; rfl) (by cases HF.out; rfl), K3.out⟩
        · rw [if_neg h14] at hF
          obtain ⟨q5, q6⟩ := int_ne h14
          have HF := Lib.hid hF
          clear hF hL hU t4 t5 h14
          go_enter Tryd.func95, Tryd.ntmps95
          go_wp2_with fail
          refine HG1.out.mono ?_
          rintro e w1 ⟨rfl, hk1⟩
          have K1 := Lib.hid hk1
          clear hk1
          go_wp2_with fail
          refine (HG2.out _ K1.out).mono ?_
          rintro e w2 ⟨rfl, hk2⟩
          have K2 := Lib.hid (K1.out.trans hk2)
          clear hk2
          go_wp2_with fail
          refine (HU.out _).mono ?_
          rintro e w3 ⟨rfl, hk3⟩
          have K3 := Lib.hid (K2.out.trans hk3)
          clear hk3
          go_wp2_with fail
          go_ret3
          exact ⟨frm_ret (by cases HF.out; rfl) (by cases HF.out; rfl) (by cases HF.out; rfl), K3.out⟩

theorem frame_cases (L : List Fld) (most : Int) :
    ((1 < getN L nTE ∨ 1 < getN L nCL ∨ 1 < getN L nTE + getN L nCL) ∧ frameM L most = ⟨0, false, 3⟩) ∨ (getN L nTE = 1 ∧ getN L nCL = 0 ∧ frameM L most = ⟨0, true, 0⟩) ∨
    (((getN L nTE = 1 ∧ getN L nCL = 0) ∨ (getN L nTE = 0 ∧ getN L nCL = 1)) ∧ ∃ x, x ≠ 0 ∧ frameM L most = ⟨0, false, x⟩) ∨ (getN L nTE = 0 ∧ getN L nCL = 0 ∧ frameM L most = ⟨-1, false, 0⟩) ∨
    (getN L nTE = 0 ∧ getN L nCL = 1 ∧ ∃ v, 0 ≤ v ∧ v ≤ most ∧ frameM L most = ⟨v, false, 0⟩) := by
  have h := undec_range (getV L nCL) most
  unfold frameM
  by_cases h1 : 1 < getN L nTE ∨ 1 < getN L nCL ∨ 1 < getN L nTE + getN L nCL
  · exact .inl ⟨h1, if_pos h1⟩
  · rw [if_neg h1]
    by_cases t4 : getN L nTE = 1
    · rw [if_pos t4]
      by_cases hc : lowW (getV L nTE) = nChunked
      · rw [if_pos hc]; exact .inr (.inl ⟨t4, by omega, rfl⟩)
      · rw [if_neg hc]; exact .inr (.inr (.inl ⟨.inl ⟨t4, by omega⟩, 3, by omega, rfl⟩))
    · rw [if_neg t4]
      by_cases t5 : getN L nCL = 0
      · rw [if_pos t5]; exact .inr (.inr (.inr (.inl ⟨by omega, t5, rfl⟩)))
      · rw [if_neg t5]
        by_cases he : undecE (getV L nCL) most = 0
        · rw [if_neg (by omega), he]
          exact .inr (.inr (.inr (.inr ⟨by omega, by omega, _, (h.1 he).1, (h.1 he).2, rfl⟩)))
        · obtain ⟨h2, h3⟩ := h.2 he
          rw [h2]
          refine .inr (.inr (.inl ⟨.inr ⟨by omega, by omega⟩, _, ?_, rfl⟩))
          split <;> omega
end Go.Proofs.YtmfnciocnlmceaaDoor

/- Layers 1 and 10: the document's Undec and Frame. No conditions but on lengths. -/
namespace Go.Proofs.YtmfnciocnlmceaaDoor
open Go.RowKit Go.Shelf

theorem digV_dec {c : UInt8} (h : 48 ≤ c.toNat ∧ c.toNat ≤ 57) : digV c = (c.toNat : Int) - 48 := by
  unfold digV
  rw [if_pos h]
/-- where the document's loop over digits stands -/
def UStage (l : List UInt8) (k : Nat) (n : Int) (b : Bool) : Prop :=
  (l.take k).all decB = true ∧ 0 ≤ n ∧ n ≤ 4611686018427387913 ∧ ((b = true ∧ gatherM 10 l 0 = none) ∨ (b = false ∧ ((gatherM 10 l 0 = gatherM 10 (l.drop k) n ∧ n ≤ 4611686018427387904) ∨ (gatherM 10 l 0 = none ∧ 4611686018427387904 < n))))

end Go.Proofs.YtmfnciocnlmceaaDoor

/- Layer 16: the document's Dec, Print, Read. No conditions but on lengths. -/
namespace Go.Proofs.YtmfnciocnlmceaaDoor
open Go.RowKit Go.Shelf

theorem dig_cut16 {r : Nat} (h : r < 10) : (⟨#[48, 49, 50, 51, 52, 53, 54, 55, 56, 57, 97, 98, 99, 100, 101, 102]⟩ : ByteArray).extract r (r + 1) = S [UInt8.ofNat (48 + r)] := by
  have : ∀ r : Fin 10, (⟨#[48, 49, 50, 51, 52, 53, 54, 55, 56, 57, 97, 98, 99, 100, 101, 102]⟩ : ByteArray).extract r.1 (r.1 + 1) = S [UInt8.ofNat (48 + r.1)] := by decide +kernel
  exact this ⟨r, h⟩
def decP (n : Nat) : List UInt8 := if 0 < n then Lib.decDigits n else []
theorem decP_step (n : Nat) (h : 0 < n) : decP n = decP (n / 10) ++ [UInt8.ofNat (48 + n % 10)] := by
  have := decI_step false n (.inr h)
  unfold decI at this
  unfold decP
  simpa using this
theorem dec_first (n : Nat) : Lib.decDigits n = decP (n / 10) ++ [UInt8.ofNat (48 + n % 10)] := by
  have := decI_step true n (.inl rfl)
  unfold decI at this
  unfold decP
  simpa using this

set_option maxHeartbeats 2000000 in
theorem ref_Dec (m : Nat) (w : World) (hm : (m : Int) ≤ 9223372036854775807) : Calls Tryd.prog 49 #[.int .i64 (m : Nat)] w fun e w' => e = .returned (.string (S (Lib.decDigits m))) ∧ w' = w := by
  have hlen : (Lib.decDigits m).length ≤ 21 := by rw [← Lib.itoa_nonneg]; exact itoa_len _ ⟨by omega, by omega⟩
  have hf := dec_first m
  have hmd := nat_mod m
  have hdv := nat_div m
  have hr10 : m % 10 < 10 := Nat.mod_lt _ (by omega)
  have hcut := dig_cut16 hr10
  have hq : m / 10 ≤ m := Nat.div_le_self _ _
  have hneg : ((m : Int) == -9223372036854775808) = false := beq_eq_false_iff_ne.2 (by omega)
  have hlz : decide ((m : Int) < 0) = false := decide_eq_false (by omega)
  generalize hL : Lib.decDigits m = L at hf hlen ⊢
  generalize m % 10 = r0 at *
  generalize m / 10 = q0 at *
  have hw0 := IntWalk.i64_in ((r0 : Int) + 1) (by omega)
  have htn0 : ((r0 : Int) + 1).toNat = r0 + 1 := by omega
  have hr00 : (0 : Int) ≤ (r0 : Int) := by omega
  have hr01 : (r0 : Int) + 1 ≤ 16 := by omega
  have hr02 : (r0 : Int) ≤ (r0 : Int) + 1 := by omega
  generalize UInt8.ofNat (48 + r0) = dg0 at *
  have HF := Lib.hid hf
  have HLL := Lib.hid hlen
  clear hf hL hlen
  go_enter Tryd.func49, Tryd.ntmps49
  go_wp2_with fail
  go_loopg [0, 3] q0 (fun g s0 s3 wr => ∃ (n : Nat) (acc : List UInt8), s0 = .int .i64 n ∧ s3 = .string (S acc) ∧ g = n ∧ (n : Int) ≤ 9223372036854775807 ∧ wr = w ∧ Hid (L = decP n ++ acc))
  case atStart => exact ⟨q0, _, rfl, rfl, rfl, by omega, rfl, HF⟩
  case round =>
    obtain ⟨n, acc, rfl, rfl, hg, hn, rfl, HI⟩ := hrel
    clear hmd hdv hcut hw0 htn0 hr00 hr01 hr02 HF hneg hlz
    by_cases hgo : 0 < n
    · have hI := HI.out
      rw [decP_step n hgo, List.append_assoc, List.singleton_append] at hI
      have hl2 := congrArg List.length hI
      simp only [List.length_append, List.length_cons] at hl2
      have hll := HLL.out
      have hmd := nat_mod n
      have hdv := nat_div n
      have hr10 : n % 10 < 10 := Nat.mod_lt _ (by omega)
      have hcut := dig_cut16 hr10
      have hap : S [UInt8.ofNat (48 + n % 10)] ++ S acc = S (UInt8.ofNat (48 + n % 10) :: acc) := S_append _ _
      have hq2 : n / 10 < n := Nat.div_lt_self hgo (by omega)
      have hn1 : decide ((n : Int) > 0) = true := by simp; omega
      have HN := Lib.hid hI
      clear hI HI
      generalize n % 10 = r at *
      generalize n / 10 = q at *
      have hs1 := S_size acc
      have hs2 := S_size [UInt8.ofNat (48 + r)]
      generalize UInt8.ofNat (48 + r) = dg at *
      simp only [List.length_singleton] at hs2
      have hw := IntWalk.i64_in ((r : Int) + 1) (by omega)
      have htn : ((r : Int) + 1).toNat = r + 1 := by omega
      have hr0 : (0 : Int) ≤ (r : Int) := by omega
      have hr1 : (r : Int) + 1 ≤ 16 := by omega
      have hr2 : (r : Int) ≤ (r : Int) + 1 := by omega
      go_wp2_with fail
      go_roundg q
      case measure => omega
      case rel => exact ⟨q, dg :: acc, rfl, rfl, rfl, by omega, rfl, HN⟩
    · have hn0 : n = 0 := by omega
      have hI := HI.out
      subst hn0
      rw [show decP 0 = [] from rfl, List.nil_append] at hI
      have HN := Lib.hid hI
      clear HI hI hgo
      go_wp2_with fail
      go_ret
      exact ⟨by rw [HN.out]; rfl, rfl⟩
theorem ref_DecI (n : Int) (w : World) (h0 : 0 ≤ n) (h1 : n ≤ 9223372036854775807) : Calls Tryd.prog 49 #[.int .i64 n] w fun e w' => e = .returned (.string (S (Lib.itoa n))) ∧ Keep [] w w' := by
  have := ref_Dec n.toNat w (by omega)
  rw [← Lib.itoa_nonneg, show ((n.toNat : Nat) : Int) = n by omega] at this
  exact this.mono fun e w' ⟨h, h2⟩ => ⟨h, by rw [h2]; exact Keep.refl _ _⟩
end Go.Proofs.YtmfnciocnlmceaaDoor

/- Layer 1: numbers in base 16 are written: FormatInt at base 16, Hexnum, the document's. No conditions but on the library's table. -/
namespace Go.Proofs.YtmfnciocnlmceaaDoor
open Go.RowKit Go.Shelf

def digL : List UInt8 := [48, 49, 50, 51, 52, 53, 54, 55, 56, 57, 97, 98, 99, 100, 101, 102]
def hexD (r : Nat) : UInt8 := digL.getD r 0
/-- the digits of a number in base 16; of 0: none -/
def hexP (n : Nat) : List UInt8 := if h : 0 < n then hexP (n / 16) ++ [hexD (n % 16)] else []
termination_by n
decreasing_by omega
def hexL (n : Nat) : List UInt8 := hexP (n / 16) ++ [hexD (n % 16)]
theorem hexP_pos {n : Nat} (h : 0 < n) : hexP n = hexP (n / 16) ++ [hexD (n % 16)] := by rw [hexP, dif_pos h]
theorem hexL_pos {n : Nat} (h : 0 < n) : hexP n = hexL n := hexP_pos h
theorem hexP_zero : hexP 0 = [] := by rw [hexP, dif_neg (by omega)]
theorem hex_cut16 {r : Nat} (h : r < 16) : (⟨#[48, 49, 50, 51, 52, 53, 54, 55, 56, 57, 97, 98, 99, 100, 101, 102]⟩ : ByteArray).extract r (r + 1) = S [hexD r] := by
  have : ∀ r : Fin 16, (⟨#[48, 49, 50, 51, 52, 53, 54, 55, 56, 57, 97, 98, 99, 100, 101, 102]⟩ : ByteArray).extract r.1 (r.1 + 1) = S [hexD r.1] := by decide +kernel
  exact this ⟨r, h⟩
theorem hexP_len : ∀ (k n : Nat), n < 16 ^ k → (hexP n).length ≤ k
  | 0, n, h => by
    have : n = 0 := by simpa using h
    subst this
    rw [hexP_zero]; simp
  | k + 1, n, h => by
    rcases Nat.eq_zero_or_pos n with rfl | hn
    · rw [hexP_zero]; simp
    · have := hexP_len k (n / 16) (by rw [Nat.pow_succ] at h; omega)
      rw [hexP_pos hn, List.length_append]
      simp
      omega
theorem hexL_len {n : Nat} (h : n < 9223372036854775808) : (hexL n).length ≤ 16 := by
  have := hexP_len 15 (n / 16) (by have : (16 : Nat) ^ 15 = 1152921504606846976 := by decide
                                   omega)
  unfold hexL
  rw [List.length_append]
  simp
  omega
theorem nat_mod16 (m : Nat) : (m : Int).tmod 16 = ((m % 16 : Nat) : Int) := by
  rw [Int.tmod_eq_emod_of_nonneg (by omega)]; omega
theorem nat_div16 (m : Nat) : (m : Int).tdiv 16 = ((m / 16 : Nat) : Int) := by
  rw [Int.tdiv_eq_ediv_of_nonneg (by omega)]; omega

set_option maxHeartbeats 2000000 in
theorem ref_Hexnum (m : Nat) (w : World) (hm : (m : Int) ≤ 9223372036854775807) : Calls Tryd.prog 64 #[.int .i64 (m : Nat)] w fun e w' => e = .returned (.string (S (hexL m))) ∧ w' = w := by
  have hlen : (hexL m).length ≤ 16 := hexL_len (by omega)
  have hf : hexL m = hexP (m / 16) ++ [hexD (m % 16)] := rfl
  have hmd := nat_mod16 m
  have hdv := nat_div16 m
  have hr10 : m % 16 < 16 := Nat.mod_lt _ (by omega)
  have hcut := hex_cut16 hr10
  have hq : m / 16 ≤ m := Nat.div_le_self _ _
  have hmx : max (m : Int) 0 = (m : Int) := by omega
  generalize hL : hexL m = L at hf hlen ⊢
  generalize m % 16 = r0 at *
  generalize m / 16 = q0 at *
  have hw0 := IntWalk.i64_in ((r0 : Int) + 1) (by omega)
  have htn0 : ((r0 : Int) + 1).toNat = r0 + 1 := by omega
  have hr00 : (0 : Int) ≤ (r0 : Int) := by omega
  have hr01 : (r0 : Int) + 1 ≤ 16 := by omega
  have hr02 : (r0 : Int) ≤ (r0 : Int) + 1 := by omega
  generalize hexD r0 = dg0 at *
  have HF := Lib.hid hf
  have HLL := Lib.hid hlen
  clear hf hL hlen
  go_enter Tryd.func64, Tryd.ntmps64
  go_wp2_with fail
  go_loopg [0, 3] q0 (fun g s0 s3 wr => ∃ (n : Nat) (acc : List UInt8), s0 = .int .i64 n ∧ s3 = .string (S acc) ∧ g = n ∧ (n : Int) ≤ 9223372036854775807 ∧ wr = w ∧ Hid (L = hexP n ++ acc))
  case atStart => exact ⟨q0, _, rfl, rfl, rfl, by omega, rfl, HF⟩
  case round =>
    obtain ⟨n, acc, rfl, rfl, hg, hn, rfl, HI⟩ := hrel
    clear hmd hdv hcut hw0 htn0 hr00 hr01 hr02 HF hmx
    by_cases hgo : 0 < n
    · have hI := HI.out
      rw [hexP_pos hgo, List.append_assoc, List.singleton_append] at hI
      have hl2 := congrArg List.length hI
      simp only [List.length_append, List.length_cons] at hl2
      have hll := HLL.out
      have hmd := nat_mod16 n
      have hdv := nat_div16 n
      have hr10 : n % 16 < 16 := Nat.mod_lt _ (by omega)
      have hcut := hex_cut16 hr10
      have hap : S [hexD (n % 16)] ++ S acc = S (hexD (n % 16) :: acc) := S_append _ _
      have hq2 : n / 16 < n := Nat.div_lt_self hgo (by omega)
      have hn1 : decide ((n : Int) > 0) = true := by simp; omega
      have HN := Lib.hid hI
      clear hI HI
      generalize n % 16 = r at *
      generalize n / 16 = q at *
      have hs1 := S_size acc
      have hs2 := S_size [hexD r]
      generalize hexD r = dg at *
      simp only [List.length_singleton] at hs2
      have hw := IntWalk.i64_in ((r : Int) + 1) (by omega)
      have htn : ((r : Int) + 1).toNat = r + 1 := by omega
      have hr0 : (0 : Int) ≤ (r : Int) := by omega
      have hr1 : (r : Int) + 1 ≤ 16 := by omega
      have hr2 : (r : Int) ≤ (r : Int) + 1 := by omega
      go_wp2_with fail
      go_roundg q
      case measure => omega
      case rel => exact ⟨q, dg :: acc, rfl, rfl, rfl, by omega, rfl, HN⟩
    · have hn0 : n = 0 := by omega
      have hI := HI.out
      subst hn0
      rw [hexP_zero, List.nil_append] at hI
      have HN := Lib.hid hI
      clear HI hI hgo
      go_wp2_with fail
      go_ret
      exact ⟨by rw [HN.out]; rfl, rfl⟩

/-- bits.TrailingZeros64's table -/
def db64 : List Int := [0, 1, 56, 2, 57, 49, 28, 3, 61, 58, 42, 50, 38, 29, 17, 4, 62, 47, 59, 36, 45, 43, 51, 22, 53, 39, 33, 30, 24, 18, 12, 5, 63, 55, 48, 27, 60, 41, 37, 16, 46, 35, 44, 21, 52, 32, 23, 11, 54, 26, 40, 15, 34, 20, 31, 10, 25, 14, 19, 9, 13, 8, 7, 6]
def P64 (w : World) : Prop := Lib.TabIs Tryd.prog w "math/bits.deBruijn64tab" .u8 db64
theorem P64.keep0 {w w' : World} (h : P64 w) (k : Keep [] w w') : P64 w' := by
  unfold P64 Lib.TabIs World.var? at *
  cases hg : Tryd.prog.globalNamed "math/bits.deBruijn64tab" with
  | none => simp [hg] at h
  | some g =>
    try rw [hg] at h
    simp only [Option.bind_some] at h ⊢
    cases ho : w.heap[g]? with
    | none => rw [ho] at h; simp at h
    | some o =>
      rw [k.heap ho (by simp)]
      rw [ho] at h
      exact h
theorem P64.laid {W : World} {laid : List (String × DataW Unit)} (h : laidMet Tryd.prog laid W) (hm : ("math/bits.deBruijn64tab", Lib.tabData .u8 db64) ∈ laid := by first | (repeat (first | exact List.Mem.head _ | exact List.Mem.tail _ (List.Mem.head _) | exact List.Mem.tail _ (List.Mem.tail _ (List.Mem.head _)))) | simp) : P64 W := by
  obtain ⟨ps, h, _⟩ := h
  exact laid_at (g := 5) (t := 166) (e := 5) (n := 64) (by kernel_rfl) rfl (by kernel_rfl) (by kernel_rfl) (by kernel_rfl) (by kernel_rfl) hm h

set_option maxRecDepth 100000 in
set_option maxHeartbeats 1000000 in
theorem bits_TZ64 (w : World) (h : P64 w) : Calls Tryd.prog 151 #[.int .u64 16] w fun e w' => e = .returned (.int .i64 4) ∧ w = w' := by
  have hc := Lib.TabIs.cell h (g := 5) (by kernel_rfl) 15 (by decide)
  have hb1 : bits BinOp.and IntKind.u64 16 (IntKind.u64.wrap (-16)) = 16 := by decide
  have hb2 : IntKind.u64.wrap 4573923408821661840 = 4573923408821661840 := by decide
  have hb3 : db64[15]?.getD 0 = 4 := rfl
  clear h
  go_enter Tryd.func151, Tryd.ntmps151
  go_wp2_with fail
  go_ret
  exact ⟨rfl, rfl⟩
set_option maxRecDepth 100000 in
set_option maxHeartbeats 1000000 in
theorem bits_TZ (w : World) (h : P64 w) : Calls Tryd.prog 146 #[.int .u64 16] w fun e w' => e = .returned (.int .i64 4) ∧ w = w' := by
  have H := Lib.hid (bits_TZ64 w h)
  clear h
  go_enter Tryd.func146, Tryd.ntmps146
  go_wp2_with fail
  refine H.out.mono ?_
  rintro e w1 ⟨rfl, rfl⟩
  go_wp2_with fail
  go_ret
  exact ⟨rfl, rfl⟩
set_option maxHeartbeats 1000000 in
theorem is_pow16 (w : World) : Calls Tryd.prog 145 #[.int .i64 16] w fun e w' => e = .returned (.bool true) ∧ w = w' := by
  have hb1 : bits BinOp.and IntKind.i64 16 15 = 0 := by decide
  go_enter Tryd.func145, Tryd.ntmps145
  go_wp2_with fail
  go_ret
  exact ⟨rfl, rfl⟩
end Go.Proofs.YtmfnciocnlmceaaDoor

/- Layer 11, plain laws: a body as it is written in chunks, and what a reader makes of it. No program. No conditions but those that each theorem states. -/
namespace Go.Proofs.YtmfnciocnlmceaaDoor
open Go.RowKit

/-- chunks of at most k + 1 bytes -/
def wrL (k : Nat) (s : List UInt8) : List UInt8 :=
  if h : s = [] then [] else hexL (min (k + 1) s.length) ++ crlfC ++ (s.take (k + 1) ++ crlfC) ++ wrL k (s.drop (k + 1))
termination_by s.length
decreasing_by
  cases s with
  | nil => exact absurd rfl h
  | cons => simp; omega
def endC : List UInt8 := [48, 13, 10, 13, 10]
theorem wrL_nil (k : Nat) : wrL k [] = [] := by rw [wrL, dif_pos rfl]
theorem wrL_cons (k : Nat) {s : List UInt8} (h : s ≠ []) : wrL k s = hexL (min (k + 1) s.length) ++ crlfC ++ (s.take (k + 1) ++ crlfC) ++ wrL k (s.drop (k + 1)) := by rw [wrL, dif_neg h]
theorem len_pos {s : List UInt8} (h : s ≠ []) : 0 < s.length := by cases s with | nil => exact absurd rfl h | cons => simp
theorem wrL_len (k : Nat) : ∀ (n : Nat) (s : List UInt8), s.length ≤ n → s.length ≤ 1048576 → (wrL k s).length ≤ 21 * s.length
  | n, s, hn, h => by
    by_cases h0 : s = []
    · subst h0; rw [wrL_nil]; simp
    · have hp := len_pos h0
      match n, hn with
      | 0, hn => omega
      | n + 1, hn =>
        have hd : (s.drop (k + 1)).length = s.length - (k + 1) := List.length_drop
        have ih := wrL_len k n (s.drop (k + 1)) (by omega) (by omega)
        have hx := hexL_len (n := min (k + 1) s.length) (by omega)
        have ht : (s.take (k + 1)).length = min (k + 1) s.length := List.length_take
        rw [wrL_cons k h0]
        simp only [List.length_append, ht, crlfC, List.length_cons, List.length_nil]
        omega
theorem wrL_clamp (k j : Nat) (s : List UInt8) (h : s.length ≤ k + 1) (h2 : s.length ≤ j + 1) : wrL k s = wrL j s := by
  by_cases h0 : s = []
  · subst h0; rw [wrL_nil, wrL_nil]
  · rw [wrL_cons k h0, wrL_cons j h0, List.take_of_length_le h, List.take_of_length_le h2, List.drop_eq_nil_of_le h, List.drop_eq_nil_of_le h2, wrL_nil, wrL_nil, Nat.min_eq_right h, Nat.min_eq_right h2]

theorem hexD_ok {r : Nat} (h : r < 16) : digOk (hexD r) = true ∧ digV (hexD r) = (r : Int) ∧ hexD r ≠ 10 := by
  have : ∀ r : Fin 16, digOk (hexD r.1) = true ∧ digV (hexD r.1) = ((r.1 : Nat) : Int) ∧ hexD r.1 ≠ 10 := by decide +kernel
  exact this ⟨r, h⟩
theorem hexP_ok (n : Nat) : (hexP n).all digOk = true ∧ hexN (hexP n) 0 = (n : Int) ∧ (10 : UInt8) ∉ hexP n := by
  induction n using Nat.strongRecOn with
  | _ n ih =>
    rcases Nat.eq_zero_or_pos n with rfl | hn
    · rw [hexP_zero]; exact ⟨rfl, rfl, by simp⟩
    · obtain ⟨h1, h2, h3⟩ := ih (n / 16) (by omega)
      obtain ⟨d1, d2, d3⟩ := hexD_ok (r := n % 16) (Nat.mod_lt _ (by omega))
      rw [hexP_pos hn]
      refine ⟨by rw [List.all_append, h1]; simp [d1], ?_, ?_⟩
      · unfold hexN at h2 ⊢
        rw [List.foldl_append, h2]
        simp only [List.foldl_cons, List.foldl_nil]
        rw [d2]; omega
      · simp only [List.mem_append, List.mem_singleton, not_or]
        exact ⟨h3, fun h => d3 h.symm⟩
theorem hexL_ok (n : Nat) : (hexL n).all digOk = true ∧ hexN (hexL n) 0 = (n : Int) ∧ (10 : UInt8) ∉ hexL n := by
  rcases Nat.eq_zero_or_pos n with rfl | hn
  · have : hexL 0 = [48] := by unfold hexL; rw [show 0 / 16 = 0 from rfl, hexP_zero]; rfl
    rw [this]; decide
  · rw [← hexL_pos hn]; exact hexP_ok n
theorem hexL_ne (n : Nat) : hexL n ≠ [] := by unfold hexL; simp
theorem num_hex (n : Nat) (m : Int) (hn : n ≤ 1048576) : numE (hexL n) m = (if m < n then 4 else 0) ∧ ((n : Int) ≤ m → numV (hexL n) m = n) := by
  obtain ⟨h1, h2, _⟩ := hexL_ok n
  have h3 := hexL_len (n := n) (by omega)
  have hne := hexL_ne n
  have hr : numRest (hexL n) = [] := by
    rw [numRest_at (k := (hexL n).length) (Nat.le_refl _) (by rw [List.take_length]; exact h1) (fun b hb => by have := (List.getElem?_eq_some_iff.1 hb).1; omega), List.drop_length]
  have ht : numT (hexL n) = hexL n := by rw [numT_at (k := (hexL n).length) (Nat.le_refl _) (by rw [hr, List.drop_length]), List.take_length]
  have hok : hexOk (hexL n) = true := by
    unfold hexOk
    rw [h1, decide_eq_true h3]
    cases hx : hexL n with
    | nil => exact absurd hx hne
    | cons => rfl
  obtain ⟨b1, b2⟩ := bound_fold (hexL n) m
  rw [h2] at b1 b2
  have hu : unhexE (hexL n) m = if m < (n : Int) then 14 else 0 := by
    unfold unhexE
    rw [hok, if_pos rfl, b2]
    by_cases hm : m < (n : Int)
    · rw [if_pos hm, if_pos (show (4611686018427387904 : Int) < (n : Int) ∨ m < (n : Int) from Or.inr hm)]
    · rw [if_neg hm, if_neg (by omega)]
  have hv : (n : Int) ≤ m → unhexV (hexL n) m = (n : Int) := fun hm => by
    unfold unhexV
    rw [hok, if_pos rfl, b1, if_neg (by omega)]
  have hro : restOk [] = true := rfl
  unfold numE numV
  rw [hr, ht, hro, if_pos rfl, hu]
  refine ⟨?_, hv⟩
  by_cases hm : m < (n : Int)
  · rw [if_pos hm, if_pos rfl, if_pos hm]
  · rw [if_neg hm, if_neg (by decide), if_neg hm]
/-- a line that stands first -/
theorem ln_first {t rest : List UInt8} (ht : (10 : UInt8) ∉ t) (hl : t.length ≤ 254) : lnC (t ++ crlfC ++ rest) = ⟨t, 0, rest⟩ := by
  have hg : ∀ j, j < t.length → (t ++ crlfC ++ rest)[j]? = t[j]? := fun j hj => by
    rw [List.append_assoc, List.getElem?_append_left hj]
  have e1 : (t ++ crlfC ++ rest)[t.length]? = some 13 := by rw [List.append_assoc, List.getElem?_append_right (Nat.le_refl _), Nat.sub_self]; rfl
  have e2 : (t ++ crlfC ++ rest)[t.length + 1]? = some 10 := by rw [List.append_assoc, List.getElem?_append_right (by omega), show t.length + 1 - t.length = 1 by omega]; rfl
  have hi : Lib.indexByte ((t ++ crlfC ++ rest).take 256) 10 = ((t.length + 1 : Nat) : Int) := by
    refine indexByte_at ?_ (fun j hj => ?_)
    · rw [List.getElem?_take, if_pos (by omega)]; exact e2
    · rw [List.getElem?_take, if_pos (by omega)]
      rcases Nat.lt_or_ge j t.length with h | h
      · rw [hg j h]; intro hh; exact ht (List.mem_of_getElem? hh)
      · rw [show j = t.length by omega, e1]; decide
  have hl2 : (t ++ crlfC ++ rest).take (t.length + 1 + 1) = t ++ crlfC := by
    rw [List.take_append_of_le_length (by simp [crlfC])]
    exact List.take_of_length_le (by simp [crlfC])
  have hd : (t ++ crlfC ++ rest).drop (t.length + 1 + 1) = rest := by
    have : t.length + 1 + 1 = (t ++ crlfC).length := by simp [crlfC]
    rw [this, List.drop_left]
  have hs : Lib.hasSuffix (t ++ crlfC) crlfC = true := by unfold Lib.hasSuffix; rw [List.isSuffixOf_iff_suffix]; exact List.suffix_append _ _
  rw [line_at hi, hl2, hd, if_pos hs]
  have : Lib.trimSuffix (t ++ crlfC) crlfC = t := by
    unfold Lib.trimSuffix
    rw [if_pos hs, List.length_append, show t.length + crlfC.length - crlfC.length = t.length by omega, List.take_left]
  rw [this]

theorem runs_more' {c c1 d : Ck} {e : Int} (h : stepM c = (c1, 0)) (hr : Runs c1 d e) : Runs c d e := .more (by rw [h]) (by rw [h]; exact hr)
theorem runs_stop' {c d : Ck} {e : Int} (h : stepM c = (d, e)) (he : e ≠ 0) : Runs c d e := by
  have := Runs.stop (c := c) (by rw [h]; exact he)
  rw [h] at this
  exact this
theorem begin_hex {lf most : Nat} {D rest : List UInt8} {er : Int} {n : Nat} (hn : n ≤ 1048576) (hm : D.length + n ≤ most) :
    stepM ⟨0, lf, most, 0, hexL n ++ crlfC ++ rest, D, er⟩ = (⟨if n = 0 then 3 else 1, n, most, 0, rest, D, er⟩, 0) := by
  have hl := ln_first (t := hexL n) (rest := rest) (hexL_ok n).2.2 (by have := hexL_len (n := n) (by omega); omega)
  obtain ⟨n1, n2⟩ := num_hex n ((most : Int) - D.length) hn
  rw [if_neg (by omega)] at n1
  have n2 := n2 (by omega)
  rw [step0 rfl]
  unfold beginM
  dsimp only
  rw [hl]
  dsimp only
  rw [if_neg (by simp), n1, n2, if_neg (by simp)]
  congr 2
  by_cases h : n = 0
  · rw [if_pos h, if_pos (by omega)]
  · rw [if_neg h, if_neg (by omega)]
theorem begin_long {lf most : Nat} {D rest : List UInt8} {er : Int} {n : Nat} (hn : n ≤ 1048576) (hm : most < D.length + n) :
    stepM ⟨0, lf, most, 0, hexL n ++ crlfC ++ rest, D, er⟩ = (⟨0, lf, most, 0, rest, D, er⟩, 4) := by
  have hl := ln_first (t := hexL n) (rest := rest) (hexL_ok n).2.2 (by have := hexL_len (n := n) (by omega); omega)
  obtain ⟨n1, _⟩ := num_hex n ((most : Int) - D.length) hn
  rw [if_pos (by omega)] at n1
  rw [step0 rfl]
  unfold beginM
  dsimp only
  rw [hl]
  dsimp only
  rw [if_neg (by simp), n1, if_pos (by simp)]
theorem data_hex {most : Nat} {D t rest : List UInt8} {er : Int} {n : Nat} (hn : t.length = n) :
    stepM ⟨1, n, most, 0, t ++ rest, D, er⟩ = (⟨2, 0, most, 0, rest, D ++ t, er⟩, 0) := by
  subst hn
  rw [step1 rfl, data_eq _ t.length (by show min t.length (t ++ rest).length = _; simp), if_neg (by show ¬ 0 < t.length - t.length; omega)]
  show (({ st := 2, left := t.length - t.length, most := most, flds := 0, inp := (t ++ rest).drop t.length, dat := D ++ (t ++ rest).take t.length, err := er } : Ck), (0 : Int)) = _
  rw [List.drop_left, List.take_left, Nat.sub_self]
theorem close_hex {lf most : Nat} {D rest : List UInt8} {er : Int} : stepM ⟨2, lf, most, 0, crlfC ++ rest, D, er⟩ = (⟨0, lf, most, 0, rest, D, er⟩, 0) := by
  rw [step2 rfl]
  unfold closeM
  have h1 : (crlfC ++ rest).take 2 = crlfC := rfl
  have h2 : crlfC.take (crlfC ++ rest).length = crlfC := List.take_of_length_le (by simp)
  have h3 : (crlfC ++ rest).drop 2 = rest := rfl
  dsimp only
  rw [h1, h2, h3, if_neg (by simp), if_neg (by simp [crlfC])]
theorem runs_end {lf most : Nat} {D more : List UInt8} {er : Int} (hm : D.length ≤ most) : Runs ⟨0, lf, most, 0, endC ++ more, D, er⟩ ⟨4, 0, most, 0, more, D, er⟩ 17 := by
  have h48 : hexL 0 = [48] := by unfold hexL; rw [show 0 / 16 = 0 from rfl, hexP_zero]; rfl
  have hb := begin_hex (lf := lf) (most := most) (D := D) (rest := crlfC ++ more) (er := er) (n := 0) (by omega) (by omega)
  rw [h48] at hb
  refine runs_more' (c1 := ⟨3, 0, most, 0, crlfC ++ more, D, er⟩) hb ?_
  have hl := ln_first (t := []) (rest := more) (by simp) (by simp)
  rw [List.nil_append] at hl
  have ht : stepM ⟨3, 0, most, 0, crlfC ++ more, D, er⟩ = (⟨4, 0, most, 0, more, D, er⟩, 0) := by
    rw [step3 rfl]
    unfold trailM
    dsimp only
    rw [hl]
    dsimp only
    rw [if_neg (by simp), if_pos rfl]
  exact runs_more' ht (runs_stop' (step4 rfl) (by decide))
/-- one chunk -/
theorem runs_chunk {lf k most : Nat} {s D R : List UInt8} {er : Int} {d : Ck} {e : Int} (h0 : s ≠ []) (hl : s.length ≤ 1048576) (hm : D.length + min (k + 1) s.length ≤ most)
    (hr : Runs ⟨0, 0, most, 0, wrL k (s.drop (k + 1)) ++ R, D ++ s.take (k + 1), er⟩ d e) : Runs ⟨0, lf, most, 0, wrL k s ++ R, D, er⟩ d e := by
  have hp := len_pos h0
  have ht : (s.take (k + 1)).length = min (k + 1) s.length := List.length_take
  rw [wrL_cons k h0]
  have hb := begin_hex (lf := lf) (most := most) (D := D) (rest := s.take (k + 1) ++ (crlfC ++ (wrL k (s.drop (k + 1)) ++ R))) (er := er) (n := min (k + 1) s.length) (by omega) hm
  rw [if_neg (by omega)] at hb
  refine runs_more' (c1 := ⟨1, min (k + 1) s.length, most, 0, s.take (k + 1) ++ (crlfC ++ (wrL k (s.drop (k + 1)) ++ R)), D, er⟩) ?_ (runs_more' (data_hex ht) (runs_more' close_hex hr))
  rw [← hb]
  simp only [List.append_assoc]
theorem runs_write (k most : Nat) (more : List UInt8) (er : Int) : ∀ (n : Nat) (s D : List UInt8) (lf : Nat), s.length ≤ n → s.length ≤ 1048576 → D.length + s.length ≤ most →
    Runs ⟨0, lf, most, 0, wrL k s ++ (endC ++ more), D, er⟩ ⟨4, 0, most, 0, more, D ++ s, er⟩ 17
  | n, s, D, lf, hn, hl, hm => by
    by_cases h0 : s = []
    · subst h0
      rw [wrL_nil, List.append_nil, List.nil_append]
      exact runs_end (by simp at hm; exact hm)
    · have hp := len_pos h0
      match n, hn with
      | 0, hn => omega
      | n + 1, hn =>
        have hd : (s.drop (k + 1)).length = s.length - (k + 1) := List.length_drop
        have ht : (s.take (k + 1)).length = min (k + 1) s.length := List.length_take
        refine runs_chunk h0 hl (by omega) ?_
        have := runs_write k most more er n (s.drop (k + 1)) (D ++ s.take (k + 1)) 0 (by omega) (by omega) (by rw [List.length_append]; omega)
        rw [List.append_assoc, List.take_append_drop] at this
        exact this
theorem runs_long (k most : Nat) (more : List UInt8) (er : Int) : ∀ (n : Nat) (s D : List UInt8) (lf : Nat), s.length ≤ n → s.length ≤ 1048576 → D.length ≤ most → most < D.length + s.length →
    ∃ d, Runs ⟨0, lf, most, 0, wrL k s ++ more, D, er⟩ d 4 ∧ d.st = 0 ∧ d.most = most ∧ d.dat.length ≤ most
  | n, s, D, lf, hn, hl, hD, hm => by
    by_cases h0 : s = []
    · subst h0; simp at hm; omega
    · have hp := len_pos h0
      match n, hn with
      | 0, hn => omega
      | n + 1, hn =>
        have hd : (s.drop (k + 1)).length = s.length - (k + 1) := List.length_drop
        have ht : (s.take (k + 1)).length = min (k + 1) s.length := List.length_take
        by_cases hf : D.length + min (k + 1) s.length ≤ most
        · obtain ⟨d, hr, h1, h2, h3⟩ := runs_long k most more er n (s.drop (k + 1)) (D ++ s.take (k + 1)) 0 (by omega) (by omega) (by rw [List.length_append]; omega) (by rw [List.length_append]; omega)
          exact ⟨d, runs_chunk h0 hl hf hr, h1, h2, h3⟩
        · have hb := begin_long (lf := lf) (most := most) (D := D) (rest := s.take (k + 1) ++ (crlfC ++ (wrL k (s.drop (k + 1)) ++ more))) (er := er) (n := min (k + 1) s.length) (by omega) (by omega)
          refine ⟨_, runs_stop' (d := ⟨0, lf, most, 0, s.take (k + 1) ++ (crlfC ++ (wrL k (s.drop (k + 1)) ++ more)), D, er⟩) ?_ (by decide), rfl, rfl, hD⟩
          rw [← hb, wrL_cons k h0]
          simp only [List.append_assoc]
end Go.Proofs.YtmfnciocnlmceaaDoor

/- Layer 1: numbers in base 16 are written: FormatInt at base 16, Hexnum. No conditions but on the library's table. -/
namespace Go.Proofs.YtmfnciocnlmceaaDoor
open Go.RowKit Go.Shelf

/-- the buffer: zeros, then the digits that stand -/
def bufL (l : List UInt8) : List UInt8 := List.replicate (65 - l.length) 0 ++ l
theorem bufL_len {l : List UInt8} (h : l.length ≤ 65) : (bufL l).length = 65 := by unfold bufL; rw [List.length_append, List.length_replicate]; omega
theorem bufL_set {l : List UInt8} (h : l.length < 65) (c : UInt8) : (bufL l).set (64 - l.length) c = bufL (c :: l) := by
  unfold bufL
  have e : 65 - l.length = (64 - l.length) + 1 := by omega
  rw [e, List.set_append_left _ _ (by simp)]
  rw [show List.replicate ((64 - l.length) + 1) (0 : UInt8) = List.replicate (64 - l.length) 0 ++ [0] from List.replicate_succ' ..]
  rw [List.set_append_right _ _ (by simp)]
  simp [show 65 - (l.length + 1) = 64 - l.length by omega]
theorem bufL_get {l : List UInt8} (h : l.length ≤ 65) (j : Nat) (hj : j < l.length) : (bufL l)[65 - l.length + j]? = l[j]? := by
  unfold bufL
  rw [List.getElem?_append_right (by simp)]
  congr 1
  simp
theorem rows_set_byte (l : List UInt8) (k : Nat) (c : UInt8) : rows byteC (l.set k c) = (rows byteC l).set k (.int .u8 (c.toNat : Nat)) := by
  induction l generalizing k with
  | nil => rfl
  | cons x r ih =>
    cases k with
    | zero => rfl
    | succ k => show byteC x ++ rows byteC (r.set k c) = ((.int .u8 (x.toNat : Nat)) :: rows byteC r).set (k + 1) _; rw [ih]; rfl
theorem rows_get_byte (l : List UInt8) (k : Nat) : (rows byteC l)[k]? = (l[k]?).map (fun c => Value.int .u8 (c.toNat : Nat)) := by
  induction l generalizing k with
  | nil => rfl
  | cons x r ih =>
    cases k with
    | zero => rfl
    | succ k => show ((.int .u8 (x.toNat : Nat)) :: rows byteC r)[k + 1]? = _; simpa using ih k
def dig36 : List UInt8 := [48, 49, 50, 51, 52, 53, 54, 55, 56, 57, 97, 98, 99, 100, 101, 102, 103, 104, 105, 106, 107, 108, 109, 110, 111, 112, 113, 114, 115, 116, 117, 118, 119, 120, 121, 122]
theorem dig36_at (r : Fin 16) : dig36[r.1]? = some (hexD r.1) := by revert r; decide +kernel
theorem hexD_at {r : Nat} (h : r < 16) (hk : r < (S dig36).size) : (S dig36)[r]'hk = hexD r := S_get (dig36_at ⟨r, h⟩) hk
theorem hexD_lit {r : Nat} (h : r < 16) (hk : r < (⟨#[48, 49, 50, 51, 52, 53, 54, 55, 56, 57, 97, 98, 99, 100, 101, 102, 103, 104, 105, 106, 107, 108, 109, 110, 111, 112, 113, 114, 115, 116, 117, 118, 119, 120, 121, 122]⟩ : ByteArray).size) : (⟨#[48, 49, 50, 51, 52, 53, 54, 55, 56, 57, 97, 98, 99, 100, 101, 102, 103, 104, 105, 106, 107, 108, 109, 110, 111, 112, 113, 114, 115, 116, 117, 118, 119, 120, 121, 122]⟩ : ByteArray)[r]'hk = hexD r := hexD_at h hk
theorem hexL_small {u : Nat} (h : u < 16) : hexL u = [hexD u] := by unfold hexL; rw [Nat.div_eq_of_lt h, hexP_zero, Nat.mod_eq_of_lt h]; rfl
theorem pow16_le {k n u : Nat} (h : u * 16 ^ k ≤ n) (hu : 16 ≤ u) (hn : n < 9223372036854775808) : k ≤ 14 := by
  rcases Nat.lt_or_ge 14 k with hk | hk
  · have h1 : (16 : Nat) ^ 15 ≤ 16 ^ k := Nat.pow_le_pow_right (by omega) hk
    have h2 : 16 * 16 ^ k ≤ u * 16 ^ k := Nat.mul_le_mul_right _ hu
    have h3 : (16 : Nat) ^ 15 = 1152921504606846976 := by decide
    omega
  · omega
theorem and15 (n : Nat) (h : n < 9223372036854775808) : bits BinOp.and IntKind.u64 (n : Int) 15 = ((n % 16 : Nat) : Int) := by
  have h1 : (BitVec.ofInt 64 (n : Int)).toNat = n := by
    rw [BitVec.ofInt_natCast, BitVec.toNat_ofNat, Nat.mod_eq_of_lt (by omega)]
  unfold bits
  show IntKind.u64.wrap (((BitVec.ofInt 64 (n : Int) &&& BitVec.ofInt 64 15).toNat : Nat) : Int) = _
  rw [BitVec.toNat_and, h1, show (BitVec.ofInt 64 15).toNat = 2 ^ 4 - 1 by decide, Nat.and_two_pow_sub_one_eq_mod]
  exact IntWalk.u64_in _ (by omega)
set_option maxRecDepth 100000 in
set_option maxHeartbeats 2000000 in
theorem fmt_bits16 (n : Nat) (hn : n < 9223372036854775808) (w : World) (h64 : P64 w) :
    Calls Tryd.prog 130 #[.slice none 0 0, .int .u64 (n : Nat), .int .i64 16, .bool false, .bool false] w fun e w' => e = .returned (.tuple #[.slice none 0 0, .string (S (hexL n))]) ∧ Keep [] w w' := by
  have HT := Lib.hid (fun w' (k : Keep [] w w') => bits_TZ w' (h64.keep0 k))
  have HI := Lib.hid (fun w' => is_pow16 w')
  have hz : Tryd.zeroCells155.toList = rows byteC (bufL []) := by kernel_rfl
  have hb0 := Blk.newA w Tryd.zeroCells155 155
  rw [hz] at hb0
  have hk0 := (Keep.refl [] w).alloc (.cells Tryd.zeroCells155 155)
  have HB0 := Lib.hid hb0
  have HK0 := Lib.hid hk0
  clear h64 hz hb0 hk0
  go_enter Tryd.func130, Tryd.ntmps130
  go_wp2_with fail
  refine (HI.out _).mono ?_
  rintro e w1 ⟨rfl, rfl⟩
  go_wp2_with fail
  refine (HT.out _ HK0.out).mono ?_
  rintro e w1 ⟨rfl, rfl⟩
  go_wp2_with fail
  generalize hwA : w.alloc (.cells Tryd.zeroCells155 155) = wA at *
  try rw [hwA]
  generalize hnb : w.heap.size = nb at *
  have hnbge : w.heap.size ≤ nb := by omega
  clear hwA hnb HT HI
  go_loopg [13, 1] n (fun g iv uv wr => ∃ (u : Nat) (T : List UInt8), iv = .int .i64 ((65 - T.length : Nat) : Int) ∧ uv = .int .u64 (u : Nat) ∧ g = u ∧ T.length ≤ 15 ∧ u < 9223372036854775808 ∧ Hid (u * 16 ^ T.length ≤ n ∧ (hexL n = hexL u ++ T)) ∧ Hid (Blk wr nb 155 (rows byteC (bufL T))) ∧ Hid (Keep [] w wr))
  case atStart => exact ⟨n, [], rfl, rfl, rfl, by simp, hn, Lib.hid ⟨by simp, by simp⟩, HB0, HK0⟩
  case round =>
    obtain ⟨u, T, rfl, rfl, hg, hT, hu, HE, HB, HK⟩ := hrel
    have hlB := bufL_len (l := T) (by omega)
    have hidx : ((65 - T.length : Nat) : Int) - 1 = ((64 - T.length : Nat) : Int) := by omega
    have hwi := IntWalk.i64_in ((64 - T.length : Nat) : Int) (by omega)
    have hi0 : (0 : Int) ≤ ((64 - T.length : Nat) : Int) := by omega
    have hi1 : ((64 - T.length : Nat) : Int) < 65 := by omega
    obtain ⟨old, hold⟩ : ∃ x, (rows byteC (bufL T))[64 - T.length]? = some x := by
      rw [rows_get_byte, List.getElem?_eq_getElem (by rw [hlB]; omega)]
      exact ⟨_, rfl⟩
    have hcell := HB.out.get hold
    have hfrz := HB.out.frozen (64 - T.length)
    by_cases h16 : 16 ≤ u
    · have h16' : decide ((u : Int) ≥ 16) = true := by simp; omega
      have hand := and15 u hu
      have hdv : (u : Int) / 16 = ((u / 16 : Nat) : Int) := by omega
      have hk14 := pow16_le HE.out.1 h16 hn
      have hq0 : 0 < u / 16 := by omega
      have hE2 : u / 16 * 16 ^ (T.length + 1) ≤ n ∧ hexL n = hexL (u / 16) ++ (hexD (u % 16) :: T) := by
        refine ⟨?_, ?_⟩
        · have h1 : u / 16 * 16 ^ (T.length + 1) = (u / 16 * 16) * 16 ^ T.length := by rw [Nat.pow_succ, Nat.mul_comm (16 ^ T.length) 16, Nat.mul_assoc]
          rw [h1]
          exact Nat.le_trans (Nat.mul_le_mul_right _ (Nat.div_mul_le_self u 16)) HE.out.1
        · rw [HE.out.2, ← hexL_pos hq0]
          unfold hexL
          simp
      have HE2 := Lib.hid hE2
      have hr : u % 16 < 16 := Nat.mod_lt _ (by omega)
      have hqu : u / 16 < u := Nat.div_lt_self (by omega) (by omega)
      have hlit := fun hk => hexD_lit hr hk
      have hB2 := HB.out.set (64 - T.length) (.int .u8 ((hexD (u % 16)).toNat : Nat))
      rw [← rows_set_byte, bufL_set (by omega)] at hB2
      have HB2 := Lib.hid hB2
      clear hE2 hB2 HE hold hlB
      generalize u % 16 = r at *
      generalize u / 16 = q at *
      generalize hexD r = dg at *
      have hr0 : (0 : Int) ≤ (r : Int) := by omega
      have hr1 : (r : Int) < 36 := by omega
      go_wp2_with fail
      go_roundg q
      case measure => omega
      case rel => exact ⟨q, dg :: T, by simp, rfl, rfl, by simp; omega, by omega, HE2, HB2, HK.out.setCell _ _ (fun hh => absurd hh (Nat.not_lt.2 hnbge))⟩
    · have h16' : decide ((u : Int) ≥ 16) = false := by simp; omega
      have hE2 : hexL n = hexD u :: T := by rw [HE.out.2, hexL_small (by omega)]; rfl
      have hlit := fun hk => hexD_lit (r := u) (by omega) hk
      have hB2 := HB.out.set (64 - T.length) (.int .u8 ((hexD u).toNat : Nat))
      rw [← rows_set_byte, bufL_set (by omega), ← hE2] at hB2
      have hlen : (hexL n).length = T.length + 1 := by rw [hE2]; simp
      have HB2 := Lib.hid hB2
      have hr0 : (0 : Int) ≤ (u : Int) := by omega
      have hr1 : (u : Int) < 36 := by omega
      have hal : Tryd.prog.arrayLen 155 = 65 := by kernel_rfl
      have hsl : ∀ W, (Instr.sliceAt 155 (.pointer (some ⟨nb, 0, none⟩)) (some (.int .i64 ((64 - T.length : Nat) : Int))) none none).run Tryd.prog W = .ok (.slice (some ⟨nb, 64 - T.length, none⟩) (hexL n).length (hexL n).length) W := by
        intro W
        rw [run_sliceAt_array_l W 155 ⟨nb, 0, none⟩ (by kernel_rfl) .i64 _ hi0 (by rw [hal]; omega)]
        have hso : (sizeOf (Tryd.prog.elem 155)).run Tryd.prog W = .ok 1 W := by
          obtain ⟨i, hi, _, h1, _⟩ := u8_info
          rw [show Tryd.prog.elem 155 = 5 from by kernel_rfl]
          simp [sizeOf, typeInfo, hi, h1]
        have h1 : ∀ j, (⟨nb, 0, none⟩ : Addr).add j = ⟨nb, j, none⟩ := fun j => by unfold Addr.add; split <;> simp_all
        rw [hso, hal]
        simp only [Result.andThen, slicedAt, Int.toNat_natCast, Nat.mul_one, h1]
        rw [if_neg (by omega), show 65 - (64 - T.length) = (hexL n).length by omega]
      have hcv := run_convert_bytes_back (P := Tryd.prog) (wr.setCell ⟨nb, 64 - T.length, none⟩ (.int .u8 ((hexD u).toNat : Nat))) 83 9 5 ⟨nb, 64 - T.length, none⟩ (hexL n).length (hexL n) Tryd.underlying83 Tryd.underlying5 Tryd.underlying9 (fun j hj => by
        have h1 : (⟨nb, 64 - T.length, none⟩ : Addr).add j = ⟨nb, 64 - T.length + j, none⟩ := by unfold Addr.add; split <;> simp_all
        rw [h1, HB2.out.cell, rows_get_byte, show 64 - T.length + j = 65 - (hexL n).length + j by omega, bufL_get (by omega) j hj, List.getElem?_eq_getElem hj]
        rfl)
      clear hE2 hB2 HE hold hlB hal hlen
      generalize hres : hexL n = res at *
      generalize hexD u = dg at *
      go_wp2_with fail
      go_ret2
      exact ⟨by first | rfl | (rw [hres]; rfl), HK.out.setCell _ _ (fun hh => absurd hh (Nat.not_lt.2 hnbge))⟩

set_option maxRecDepth 100000 in
set_option maxHeartbeats 1000000 in
theorem fmt_int16 (n : Nat) (hn : n < 9223372036854775808) (w : World) (h64 : P64 w) :
    Calls Tryd.prog 109 #[.int .i64 (n : Nat), .int .i64 16] w fun e w' => e = .returned (.string (S (hexL n))) ∧ Keep [] w w' := by
  have H := Lib.hid (fmt_bits16 n hn w h64)
  have w1 := IntWalk.u64_in (n : Int) (by omega)
  have h0 : decide ((n : Int) < 0) = false := by simp
  clear h64
  go_enter Tryd.func109, Tryd.ntmps109
  go_wp2_with fail
  refine H.out.mono ?_
  rintro e w1 ⟨rfl, k1⟩
  go_wp2_with fail
  go_ret
  exact ⟨rfl, k1⟩
set_option maxHeartbeats 1000000 in
theorem fmt_int (n : Nat) (hn : n < 9223372036854775808) (w : World) (h64 : P64 w) :
    Calls Tryd.prog 93 #[.int .i64 (n : Nat), .int .i64 16] w fun e w' => e = .returned (.string (S (hexL n))) ∧ Keep [] w w' := by
  have H := Lib.hid (fmt_int16 n hn w h64)
  clear h64
  go_enter Tryd.func93, Tryd.ntmps93
  go_wp2_with fail
  refine H.out.mono ?_
  rintro e w1 ⟨rfl, k1⟩
  go_wp2_with fail
  go_ret
  exact ⟨rfl, k1⟩
set_option maxHeartbeats 1000000 in
theorem hexa_Hexnum (n : Nat) (hn : (n : Int) ≤ 9223372036854775807) (w : World) (h64 : P64 w) :
    Calls Tryd.prog 63 #[.int .i64 (n : Nat)] w fun e w' => e = .returned (.string (S (hexL n))) ∧ Keep [] w w' := by
  have H := Lib.hid (fmt_int n (by omega) w h64)
  have hmx : max (n : Int) 0 = (n : Int) := by omega
  clear h64
  go_enter Tryd.func63, Tryd.ntmps63
  go_wp2_with fail
  refine H.out.mono ?_
  rintro e w1 ⟨rfl, k1⟩
  go_wp2_with fail
  go_ret
  exact ⟨rfl, k1⟩
end Go.Proofs.YtmfnciocnlmceaaDoor
