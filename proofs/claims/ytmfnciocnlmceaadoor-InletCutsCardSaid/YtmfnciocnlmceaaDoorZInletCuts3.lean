/- Parts of the proof of InletCuts, in order. No conditions but those that each theorem states. -/
import Derived.Test.YtmfnciocnlmceaaDoorZInletCuts2
import Derived.WalkMore
import Derived.Lib.ItoaNum
import Derived.Lib.SlTrimSet
import Derived.Lib.SlBytesConst
import Derived.Lib.LaidTab
import Derived.Lib.ItoaLen
import Derived.Sort.Grow
import Derived.Deep.RegionHeld3
/- Layer 11: data, step. No conditions but on lengths. -/
namespace Go.Proofs.YtmfnciocnlmceaaDoor
open Go.RowKit Go.Shelf

theorem Bd.set {B b o : Nat} {T : TypeId} {cs : List Value} {v : Value} {l : List UInt8} {w : World} (h : Bd B w b o T cs v l) (k : Nat) (x : Value) (h1 : k ≠ o) (h2 : k ≠ o + 1) : Bd B (w.setCell ⟨b, k, none⟩ x) b o T (cs.set k x) v l := by
  refine ⟨h.blk.set k x, ?_, ?_, ?_, h.ne⟩
  · rw [List.getElem?_set_ne h1]; exact h.ad
  · rw [List.getElem?_set_ne h2]; exact h.buf
  · exact h.own.keep (S := [b]) ((Keep.refl _ _).setCell _ _ (by simp)) (fun g hg => by
      simp only [List.mem_singleton]
      rintro rfl
      exact h.ne hg)
/-- what a call on a reader leaves -/
def Aft (B : Nat) (w : World) (b : Nat) (p : List UInt8) (v : Value) (c' : Ck) (w' : World) : Prop := ∃ v', Ct B w' b p c' v' ∧ Keep (b :: v.ownBlock.toList) w w' ∧ (v'.ownBlock = v.ownBlock ∨ ∃ g, v'.ownBlock = some g ∧ w.heap.size ≤ g)
theorem Aft.of {B b : Nat} {w w' : World} {p : List UInt8} {v : Value} {c' : Ck} (h : Ct B w' b p c' v) (k : Keep [b] w w') : Aft B w b p v c' w' := ⟨v, h, k.mono (fun x hx _ => by simp at hx; simp [hx]), .inl rfl⟩
theorem Aft.trans {B b : Nat} {w w1 w2 : World} {p : List UInt8} {v v1 v2 : Value} {c1 c2 : Ck} (h : Ct B w1 b p c1 v1) (k : Keep (b :: v.ownBlock.toList) w w1) (hv : v1.ownBlock = v.ownBlock ∨ ∃ g, v1.ownBlock = some g ∧ w.heap.size ≤ g)
    (h2 : Ct B w2 b p c2 v2) (k2 : Keep (b :: v1.ownBlock.toList) w1 w2) (hv2 : v2.ownBlock = v1.ownBlock ∨ ∃ g, v2.ownBlock = some g ∧ w1.heap.size ≤ g) : Aft B w b p v c2 w2 := by
  refine ⟨v2, h2, k.trans' k2 (fun x hx hl => ?_), ?_⟩
  · rcases List.mem_cons.1 hx with rfl | hx
    · simp
    · rcases hv with e | ⟨g, e, hg⟩
      · rw [e] at hx; exact List.mem_cons_of_mem _ hx
      · rw [e] at hx
        have : x = g := by simpa using hx
        omega
  · rcases hv2 with e | ⟨g, e, hg⟩
    · rcases hv with e' | ⟨g, e', hg⟩
      · exact .inl (e.trans e')
      · exact .inr ⟨g, e.trans e', hg⟩
    · exact .inr ⟨g, e, Nat.le_trans k.size hg⟩

set_option maxRecDepth 100000 in
set_option maxHeartbeats 2000000 in
theorem chunk_data (B b : Nat) (p : List UInt8) (c : Ck) (v : Value) (w : World) (h : Ct B w b p c v) (hB : B ≤ w.heap.size) (hl : c.inp.length + c.dat.length ≤ 1048576) (hleft : (c.left : Int) ≤ 9223372036854775807) :
    Calls Tryd.prog 89 #[.pointer (some ⟨b, 0, none⟩)] w fun e w' => e = .returned (.int .i64 (dataM c).2) ∧ Aft B w b p v (dataM c).1 w' := by
  have sz := S_size c.inp
  obtain ⟨_, c1, _, _, c4, _, _⟩ := h.at
  have hmin : min ((c.left : Nat) : Int) ((c.inp.length : Nat) : Int) = ((min c.left c.inp.length : Nat) : Int) := by omega
  have hd := data_eq c _ rfl
  have hn1 : min c.left c.inp.length ≤ c.left := Nat.min_le_left _ _
  have hn2 : min c.left c.inp.length ≤ c.inp.length := Nat.min_le_right _ _
  generalize min c.left c.inp.length = n at *
  obtain ⟨ad, o, hbd, hdo⟩ := h
  have ho : o.length ≤ c.dat.length := by rw [hdo]; simp
  have H := Lib.hid hbd
  have HB := Lib.hid hB
  have HD := Lib.hid hd
  have HDO := Lib.hid hdo
  clear hd hdo hbd hB
  have hx1 : (S c.inp).extract 0 n = S (c.inp.take n) := by rw [S_extract, List.drop_zero]
  have hx2 : (S c.inp).extract n c.inp.length = S (c.inp.drop n) := by rw [S_extract, List.take_length]
  have lt : (c.inp.take n).length = n := by rw [List.length_take]; omega
  have i0 : (0 : Int) ≤ (n : Int) := by omega
  have i1 : (n : Int) ≤ (c.inp.length : Int) := by omega
  go_enter Tryd.func89, Tryd.ntmps89
  go_upto_region 1 with fail
  go_cut [3] (fun y wx => y = .int .i64 (n : Nat) ∧ Hid (Keep [] w wx))
  case first =>
    go_region_with fail
    all_goals
      go_wp2_with fail
      go_meet
      exact ⟨rfl, Lib.hid (by repeat (first | exact Keep.refl _ _ | apply Keep.drew))⟩
  case rest =>
  obtain ⟨rfl, KX⟩ := hcut
  have H1 := Lib.hid (H.out.keep KX.out (by simp) (by simp))
  have K1 := Lib.hid KX.out
  clear c1 c4 hmin KX
  have c4 := H1.out.blk.get (k := 4) rfl
  have HW := Lib.hid (fun w2 (k2 : Keep [] wc w2) => bld_Write (c.inp.take n) (H1.out.keep k2 (by simp) (by simp)) ck_lies (Nat.le_trans (Nat.le_trans HB.out K1.out.size) k2.size) (by rw [lt]; omega))
  go_upto_region 2 with fail
  go_cut [] (fun wx => Hid (∃ v', Bd B wx b 5 87 (ckC c (.pointer (some ⟨b, 5, none⟩)) v') v' (o ++ c.inp.take n) ∧ Keep (b :: v.ownBlock.toList) w wx ∧ (v'.ownBlock = v.ownBlock ∨ ∃ g, v'.ownBlock = some g ∧ w.heap.size ≤ g)))
  case first =>
    go_region_with (first
      | (go_at_call 62; refine (HW.out _ (by repeat (first | exact Keep.refl _ _ | apply Keep.drew))).mono ?_; rintro e w2 ⟨rfl, v', hb', hk', hv'⟩; have HX := Lib.hid (And.intro hb' (And.intro hk' hv')); clear hb' hk' hv')
      | fail)
    all_goals
      go_wp2_with fail
      go_meet
      refine Lib.hid ?_
      obtain ⟨hb', hk', hv'⟩ := HX.out
      refine ⟨v', ?_, ?_, ?_⟩
      · exact hb'
      · refine Keep.trans' (Keep.mono (S' := b :: v.ownBlock.toList) (S := []) ?_ (by simp)) hk' (fun x hx _ => hx)
        repeat (first | exact K1.out | apply Keep.drew)
      · rcases hv' with e | ⟨g, e, hg⟩
        · exact .inl e
        · exact .inr ⟨g, e, Nat.le_trans K1.out.size hg⟩
  case rest =>
  have HC := hcut
  clear hcut H1 K1 c4 HW hx1
  obtain ⟨v', hb, hk, hv⟩ := HC.out
  have HN := Lib.hid (And.intro hb (And.intro hk hv))
  have c1 := hb.blk.get (k := 1) rfl
  have c4 := hb.blk.get (k := 4) rfl
  have c7 := hb.blk.get (k := 7) rfl
  have c0 := hb.blk.get (k := 0) rfl
  have f1 := hb.blk.frozen 1
  have f4 := hb.blk.frozen 4
  have f7 := hb.blk.frozen 7
  have f0 := hb.blk.frozen 0
  have w2 := IntWalk.i64_in ((c.dat.length : Int) + (n : Int)) (by omega)
  have ld : (c.dat ++ c.inp.take n).length = c.dat.length + n := by rw [List.length_append, lt]
  clear hb hk hv HC
  have e1 : ((c.left : Int) - (n : Int)) = ((c.left - n : Nat) : Int) := by omega
  have e7 : ((c.dat.length : Int) + (n : Int)) = ((c.dat.length + n : Nat) : Int) := by omega
  have hdat : c.dat ++ c.inp.take n = p ++ (o ++ c.inp.take n) := by rw [HDO.out, List.append_assoc]
  generalize hlf : c.left - n = lf at *
  have w1 := IntWalk.i64_in ((lf : Nat) : Int) (by omega)
  have HE := Lib.hid (And.intro e1 (And.intro e7 (And.intro ld hdat)))
  clear e7 ld hdat hlf
  by_cases h0 : 0 < lf
  · have hd := HD.out
    rw [if_pos h0] at hd
    have HF := Lib.hid hd
    have h0' : decide ((lf : Int) > 0) = true := by simp; omega
    clear hd HD
    go_wp2_with fail
    go_ret
    rw [HF.out]
    try rw [HE.out.2.1, ← HE.out.2.2.1]
    refine ⟨rfl, v', ⟨.pointer (some ⟨b, 5, none⟩), o ++ c.inp.take n, ?_, HE.out.2.2.2⟩, ((HN.out.2.1.setCell _ _ (by simp)).setCell _ _ (by simp)).setCell _ _ (by simp), HN.out.2.2⟩
    have := ((HN.out.1.set 4 (.string (S (c.inp.drop n))) (by omega) (by omega)).set 1 (.int .i64 ((lf : Nat) : Int)) (by omega) (by omega)).set 7 (.int .i64 ((c.dat.length : Int) + (n : Int))) (by omega) (by omega)
    rw [HE.out.2.1, ← HE.out.2.2.1] at this
    exact this
  · have hd := HD.out
    rw [if_neg h0] at hd
    have HF := Lib.hid hd
    have h0' : decide ((lf : Int) > 0) = false := by simp; omega
    clear hd HD
    go_wp2_with fail
    go_ret
    rw [HF.out]
    try rw [HE.out.2.1, ← HE.out.2.2.1]
    refine ⟨rfl, v', ⟨.pointer (some ⟨b, 5, none⟩), o ++ c.inp.take n, ?_, HE.out.2.2.2⟩, (((HN.out.2.1.setCell _ _ (by simp)).setCell _ _ (by simp)).setCell _ _ (by simp)).setCell _ _ (by simp), HN.out.2.2⟩
    have := (((HN.out.1.set 4 (.string (S (c.inp.drop n))) (by omega) (by omega)).set 1 (.int .i64 ((lf : Nat) : Int)) (by omega) (by omega)).set 7 (.int .i64 ((c.dat.length : Int) + (n : Int))) (by omega) (by omega)).set 0 (.int .i64 2) (by omega) (by omega)
    rw [HE.out.2.1, ← HE.out.2.2.1] at this
    exact this

set_option maxRecDepth 100000 in
set_option maxHeartbeats 2000000 in
theorem chunk_step (B b : Nat) (p : List UInt8) (c : Ck) (v : Value) (w : World) (hm : ML w) (hb : 0 ≠ b) (h : Ct B w b p c v) (hB : B ≤ w.heap.size) (hl : c.inp.length + c.dat.length ≤ 1048576) (hmost : (c.most : Int) ≤ 9223372036854775807) (hok : c.ok) :
    Calls Tryd.prog 59 #[.pointer (some ⟨b, 0, none⟩)] w fun e w' => e = .returned (.int .i64 (stepM c).2) ∧ Aft B w b p v (stepM c).1 w' := by
  obtain ⟨k1, k2, k3⟩ := hok
  obtain ⟨c0, _⟩ := h.at
  have hs : stepM c = if c.st = 0 then beginM c else if c.st = 1 then dataM c else if c.st = 2 then closeM c else if c.st = 3 then trailM c else (c, 17) := rfl
  by_cases h0 : c.st = 0
  · have HC := Lib.hid (chunk_begin B b p c v w hm hb h (by omega) hmost (by omega))
    rw [if_pos h0] at hs
    have HS := Lib.hid hs
    rw [h0] at c0
    clear hs h
    go_enter Tryd.func59, Tryd.ntmps59
    go_wp2_with fail
    refine HC.out.mono ?_
    rintro e w1 ⟨rfl, hx, hk⟩
    have HX := Lib.hid (Aft.of hx hk)
    clear hx hk
    go_wp2_with fail
    go_ret
    rw [HS.out]
    exact ⟨rfl, HX.out⟩
  by_cases h1 : c.st = 1
  · have HC := Lib.hid (chunk_data B b p c v w h hB hl (by omega))
    rw [if_neg h0, if_pos h1] at hs
    have HS := Lib.hid hs
    rw [h1] at c0
    clear hs h
    go_enter Tryd.func59, Tryd.ntmps59
    go_wp2_with fail
    refine HC.out.mono ?_
    rintro e w1 ⟨rfl, hx⟩
    have HX := Lib.hid hx
    clear hx
    go_wp2_with fail
    go_ret
    rw [HS.out]
    exact ⟨rfl, HX.out⟩
  by_cases h2 : c.st = 2
  · have HC := Lib.hid (chunk_close B b p c v w h (by omega))
    rw [if_neg h0, if_neg h1, if_pos h2] at hs
    have HS := Lib.hid hs
    rw [h2] at c0
    clear hs h
    go_enter Tryd.func59, Tryd.ntmps59
    go_wp2_with fail
    refine HC.out.mono ?_
    rintro e w1 ⟨rfl, hx, hk⟩
    have HX := Lib.hid (Aft.of hx hk)
    clear hx hk
    go_wp2_with fail
    go_ret
    rw [HS.out]
    exact ⟨rfl, HX.out⟩
  by_cases h3 : c.st = 3
  · have HC := Lib.hid (chunk_trailer B b p c v w hm hb h (by omega) k2)
    rw [if_neg h0, if_neg h1, if_neg h2, if_pos h3] at hs
    have HS := Lib.hid hs
    rw [h3] at c0
    clear hs h
    go_enter Tryd.func59, Tryd.ntmps59
    go_wp2_with fail
    refine HC.out.mono ?_
    rintro e w1 ⟨rfl, hx, hk⟩
    have HX := Lib.hid (Aft.of hx hk)
    clear hx hk
    go_wp2_with fail
    go_ret
    rw [HS.out]
    exact ⟨rfl, HX.out⟩
  · have h4 : c.st = 4 := by omega
    rw [if_neg h0, if_neg h1, if_neg h2, if_neg h3] at hs
    have HS := Lib.hid hs
    have HX := Lib.hid h
    rw [h4] at c0
    clear hs h
    go_enter Tryd.func59, Tryd.ntmps59
    go_wp2_with fail
    go_ret
    rw [HS.out]
    exact ⟨rfl, Aft.of HX.out (Keep.refl _ _)⟩
end Go.Proofs.YtmfnciocnlmceaaDoor

/- Layer 11: a builder that lies in another struct: String, Reset; a reader's New, Add, Take, Done, Rest, Size. No conditions but on lengths. -/
namespace Go.Proofs.YtmfnciocnlmceaaDoor
open Go.RowKit Go.Shelf

theorem keep_freeze {S : List Nat} {w w' : World} (h : Keep S w w') {p : Addr} (hp : p.block ∈ S) (n : Nat) : Keep S w (w'.freeze p n) := by
  refine h.trans ?_
  unfold World.freeze
  split
  · exact Keep.refl _ _
  · exact ⟨rfl, rfl, rfl, by simp, fun k hk hn => by
      simp only [Array.getElem?_modify]
      rw [if_neg (fun e => hn (by rw [← e]; exact hp))]⟩

set_option maxHeartbeats 8000000 in
set_option maxRecDepth 100000 in
theorem bld_String {B b o : Nat} {T : TypeId} {cs : List Value} {v : Value} {l : List UInt8} {w : World} (h : Bd B w b o T cs v l) :
    Calls Tryd.prog 60 #[.pointer (some ⟨b, o, none⟩)] w fun e w' => e = .returned (.string (S l)) ∧ Keep v.ownBlock.toList w w' := by
  have hown := h.own
  unfold Own at hown
  rw [rows_bytes] at hown
  have hu : Tryd.prog.underlying 112 = some (.pointer 5) := Tryd.underlying112
  have mixed : Tryd.prog.follows .mixedOrders = true := by kernel_rfl
  have c0 : w.cell? ⟨b, o + 1, none⟩ = some v := h.blk.get h.buf
  have c1 : w.drew.cell? ⟨b, o + 1, none⟩ = some v := c0
  rcases hown.2 with ⟨hv, hz⟩ | ⟨g, cap, cur, hv, hbg, hg, hnc, hcm, hcs, htake⟩
  · have hl0 : l = [] := List.eq_nil_of_length_eq_zero hz
    subst hv hl0
    have hUS := fun (W : World) (q : Option Addr) => Lib.run_unsafeString_none (P := Tryd.prog) W 112 3 9 q
    have hSD : (Builtin.unsafeSliceData_ #[83] 112 #[.slice none 0 0]).run Tryd.prog w.drew = .ok (.pointer none) w.drew := rfl
    clear hown h
    go_enter Tryd.func60, Tryd.ntmps60
    go_wp2_with fail
    go_region_o
    all_goals (go_wp2; go_ret; exact ⟨rfl, (Keep.refl _ _).drew⟩)
  · have hk := hown.cells (g := g)
    subst hv
    by_cases hl0 : l = []
    · subst hl0
      have hUS := fun (W : World) (q : Option Addr) => Lib.run_unsafeString_none (P := Tryd.prog) W 112 3 9 q
      by_cases hc0 : cap = 0
      · subst hc0
        have hbl := h.blk.lt
        have hSD : (Builtin.unsafeSliceData_ #[83] 112 #[.slice (some ⟨g, 0, none⟩) 0 0]).run Tryd.prog w.drew = .ok (.pointer (some ⟨w.drew.heap.size, 0, none⟩)) (w.drew.alloc (.view ⟨g, 0, none⟩ 5)) :=
          Lib.run_unsafeSliceData_zero w.drew _ _ 5 hu ⟨g, 0, none⟩ 0 (5, cur.size) (by have hg' : w.drew.heap[g]? = some (.cells cur 5 (0, 0)) := hg; simp [World.shape?, hg'])
        have c2 : (w.drew.alloc (.view ⟨g, 0, none⟩ 5)).cell? ⟨b, o + 1, none⟩ = some (.slice (some ⟨g, 0, none⟩) 0 0) := ((((Keep.refl [] w).drew).alloc _).blk h.blk (by simp)).get h.buf
        have c3 : (w.alloc (.view ⟨g, 0, none⟩ 5)).drew.cell? ⟨b, o + 1, none⟩ = some (.slice (some ⟨g, 0, none⟩) 0 0) := c2
        clear hown h hk
        go_enter Tryd.func60, Tryd.ntmps60
        go_wp2_with fail
        go_region_o
        all_goals (go_wp2; go_ret; exact ⟨rfl, ((Keep.refl _ _).drew).alloc _⟩)
      · have hSD : (Builtin.unsafeSliceData_ #[83] 112 #[.slice (some ⟨g, 0, none⟩) 0 cap]).run Tryd.prog w.drew = .ok (.pointer (some ⟨g, 0, none⟩)) w.drew :=
          Lib.run_unsafeSliceData_row _ _ _ _ _ _ hc0
        clear hown h hk hc0
        go_enter Tryd.func60, Tryd.ntmps60
        go_wp2_with fail
        go_region_o
        all_goals (go_wp2; go_ret; exact ⟨rfl, (Keep.refl _ _).drew⟩)
    · have hll : l.length ≠ 0 := by simpa using hl0
      have hSD : (Builtin.unsafeSliceData_ #[83] 112 #[.slice (some ⟨g, 0, none⟩) l.length cap]).run Tryd.prog w.drew = .ok (.pointer (some ⟨g, 0, none⟩)) w.drew :=
        Lib.run_unsafeSliceData_row _ _ _ _ _ _ (by omega)
      have hUS : (Builtin.unsafeString_ #[112, 3] 9 #[.pointer (some ⟨g, 0, none⟩), .int .i64 l.length]).run Tryd.prog w.drew = .ok (.string (S l)) (w.drew.freeze ⟨g, 0, none⟩ l.length) := by
        refine Lib.run_unsafeString_row w.drew 112 3 9 5 hu (by kernel_rfl) g cur.size (by have hg' : w.drew.heap[g]? = some (.cells cur 5 (0, 0)) := hg; simp [World.shape?, hg']) l hl0 (by omega) (by unfold maxLen at hcm; omega) ?_
        intro j x hx
        have := hk rfl j (.int .u8 x.toNat) (by simp [Lib.byteCells, hx])
        exact this
      clear hown h hk hll hl0
      go_enter Tryd.func60, Tryd.ntmps60
      go_wp2_with fail
      go_region_o
      all_goals (go_wp2; go_ret; exact ⟨rfl, keep_freeze ((Keep.refl _ _).drew) (by simp [Value.ownBlock]) _⟩)

set_option maxHeartbeats 2000000 in
set_option maxRecDepth 100000 in
theorem bld_Reset {b o : Nat} {T : TypeId} {cs : List Value} {w : World} (h : Blk w b T cs) (ho : o + 1 < cs.length) :
    Calls Tryd.prog 61 #[.pointer (some ⟨b, o, none⟩)] w fun e w' => e = .returned (.tuple #[]) ∧ Blk w' b T ((cs.set o (.pointer none)).set (o + 1) (.slice none 0 0)) ∧ Keep [b] w w' := by
  obtain ⟨x, hx⟩ : ∃ x, cs[o]? = some x := ⟨_, List.getElem?_eq_getElem (by omega)⟩
  obtain ⟨y, hy⟩ : ∃ y, cs[o + 1]? = some y := ⟨_, List.getElem?_eq_getElem (by omega)⟩
  have c0 := h.get hx
  have f0 := h.frozen o
  have h1 := h.set o (.pointer none)
  have c1 := h1.get (k := o + 1) (v := y) (by rw [List.getElem?_set_ne (by omega)]; exact hy)
  have f1 := h1.frozen (o + 1)
  have H := Lib.hid (h1.set (o + 1) (.slice none 0 0))
  clear h h1
  go_enter Tryd.func61, Tryd.ntmps61
  go_wp2_with fail
  go_end0
  exact ⟨rfl, H.out, ((Keep.refl _ _).setCell _ _ (by simp)).setCell _ _ (by simp)⟩

def ck0 (most : Int) : Ck := ⟨0, 0, (max most 0).toNat, 0, [], [], 0⟩
theorem ck0_ok (m : Int) : (ck0 m).ok := ⟨by simp [ck0], by simp [ck0], by simp [ck0]⟩
set_option maxHeartbeats 2000000 in
set_option maxRecDepth 100000 in
theorem chunk_New (B : Nat) (m : Int) (w : World) (hB : B ≤ w.heap.size) :
    Calls Tryd.prog 25 #[.int .i64 m] w fun e w' => ∃ b, e = .returned (.pointer (some ⟨b, 0, none⟩)) ∧ w.heap.size ≤ b ∧ b < w'.heap.size ∧ Ct B w' b [] (ck0 m) (.slice none 0 0) ∧ Keep [] w w' := by
  have hmx : max m 0 = (((max m 0).toNat : Nat) : Int) := by omega
  have hbk := Blk.newA w (ckC (ck0 m) (.pointer none) (.slice none 0 0)).toArray 87
  have H := Lib.hid hbk
  have HM := Lib.hid hmx
  have hmx2 : max m 0 = ((ck0 m).most : Int) := hmx
  generalize hmm : (ck0 m).most = k at *
  clear hbk hmx
  go_enter Tryd.func25, Tryd.ntmps25
  go_wp2_with fail
  go_ret
  refine ⟨w.heap.size, rfl, Nat.le_refl _, by simp, ⟨.pointer none, [], ⟨?_, .inl rfl, rfl, Own.nil _ _ _ _ _, by simp [Value.ownBlock]⟩, rfl⟩, (Keep.refl [] w).alloc _⟩
  have := H.out
  subst hmm
  exact this

set_option maxHeartbeats 1000000 in
set_option maxRecDepth 100000 in
theorem chunk_Done {B b : Nat} {p : List UInt8} {c : Ck} {v : Value} {w : World} (h : Ct B w b p c v) (_ : c.st ≤ 4) :
    Calls Tryd.prog 29 #[.pointer (some ⟨b, 0, none⟩)] w fun e w' => e = .returned (.bool (decide (c.st = 4))) ∧ w = w' := by
  obtain ⟨c0, _⟩ := h.at
  clear h
  by_cases h4 : c.st = 4
  · rw [h4] at c0
    go_enter Tryd.func29, Tryd.ntmps29
    go_wp2_with fail
    go_ret
    exact ⟨by simp [h4], rfl⟩
  · have h4' := (nat_ne (show c.st ≠ 4 from h4)).1
    have h5 := (int_ne (show ((c.st : Nat) : Int) ≠ 4 by omega)).1
    have h6 : decide (c.st = 4) = false := by simp [h4]
    have HF := Lib.hid h6
    generalize c.st = st at *
    go_enter Tryd.func29, Tryd.ntmps29
    go_wp2_with fail
    go_ret
    exact ⟨ret_bool (by simp [h4]), rfl⟩
set_option maxHeartbeats 1000000 in
set_option maxRecDepth 100000 in
theorem chunk_Rest {B b : Nat} {p : List UInt8} {c : Ck} {v : Value} {w : World} (h : Ct B w b p c v) (hs : c.st ≤ 4) :
    Calls Tryd.prog 30 #[.pointer (some ⟨b, 0, none⟩)] w fun e w' => e = .returned (.string (S (if c.st = 4 then c.inp else []))) ∧ w = w' := by
  have HD := Lib.hid (chunk_Done h hs)
  obtain ⟨_, _, _, _, c4, _, _⟩ := h.at
  clear h
  by_cases h4 : c.st = 4
  · rw [decide_eq_true h4] at HD
    rw [if_pos h4]
    go_enter Tryd.func30, Tryd.ntmps30
    go_wp2_with fail
    refine HD.out.mono ?_
    rintro e w1 ⟨rfl, rfl⟩
    go_wp2_with fail
    go_ret
    exact ⟨rfl, rfl⟩
  · rw [decide_eq_false h4] at HD
    rw [if_neg h4]
    go_enter Tryd.func30, Tryd.ntmps30
    go_wp2_with fail
    refine HD.out.mono ?_
    rintro e w1 ⟨rfl, rfl⟩
    go_wp2_with fail
    go_ret
    exact ⟨rfl, rfl⟩
set_option maxHeartbeats 1000000 in
set_option maxRecDepth 100000 in
theorem chunk_Size {B b : Nat} {p : List UInt8} {c : Ck} {v : Value} {w : World} (h : Ct B w b p c v) :
    Calls Tryd.prog 31 #[.pointer (some ⟨b, 0, none⟩)] w fun e w' => e = .returned (.int .i64 (c.dat.length : Nat)) ∧ w = w' := by
  obtain ⟨_, _, _, _, _, c7, _⟩ := h.at
  clear h
  go_enter Tryd.func31, Tryd.ntmps31
  go_wp2_with fail
  go_ret
  exact ⟨rfl, rfl⟩

set_option maxHeartbeats 2000000 in
set_option maxRecDepth 100000 in
theorem chunk_Take {B b : Nat} {p : List UInt8} {c : Ck} {v : Value} {w : World} (h : Ct B w b p c v) :
    Calls Tryd.prog 28 #[.pointer (some ⟨b, 0, none⟩)] w fun e w' => ∃ o, e = .returned (.string (S o)) ∧ c.dat = p ++ o ∧ Ct B w' b c.dat c (.slice none 0 0) ∧ Keep (b :: v.ownBlock.toList) w w' := by
  obtain ⟨ad, o, hb, hd⟩ := h
  have HS := Lib.hid (bld_String hb)
  have HB := Lib.hid hb
  have HD := Lib.hid hd
  clear hb hd
  go_enter Tryd.func28, Tryd.ntmps28
  go_wp2_with fail
  refine HS.out.mono ?_
  rintro e w1 ⟨rfl, k1⟩
  have hb1 : Blk w1 b 87 (ckC c ad v) := k1.blk HB.out.blk (by
    intro hh
    have := HB.out.ne
    simp at hh
    exact this hh)
  have HR := Lib.hid (bld_Reset (o := 5) hb1 (show 5 + 1 < 9 by decide))
  have K1 := Lib.hid (k1.mono (S' := b :: v.ownBlock.toList) (fun x hx _ => List.mem_cons_of_mem _ hx))
  clear k1 hb1
  go_wp2_with fail
  refine HR.out.mono ?_
  rintro e w2 ⟨rfl, hb2, k2⟩
  have HB2 := Lib.hid hb2
  have K2 := Lib.hid (K1.out.trans' k2 (fun x hx _ => by simp at hx; simp [hx]))
  clear hb2 k2
  go_wp2_with fail
  go_ret
  refine ⟨o, rfl, HD.out, ⟨.pointer none, [], ⟨HB2.out, .inl rfl, rfl, Own.nil _ _ _ _ _, by simp [Value.ownBlock]⟩, by simp⟩, K2.out⟩

/-- what Add comes to -/
def AddR (c : Ck) (s : List UInt8) (c' : Ck) : Prop := if c.err ≠ 0 then c' = c else ∃ d e, Runs (c.add s) d e ∧ c' = { d with err := if e = 17 then 0 else e }
theorem add_ok {c : Ck} (h : c.ok) (s : List UInt8) : (c.add s).ok := h

set_option maxHeartbeats 2000000 in
set_option maxRecDepth 100000 in
theorem chunk_Add (B b : Nat) (p s : List UInt8) (c c' : Ck) (v : Value) (w : World) (hm : ML w) (hb : 0 ≠ b) (h : Ct B w b p c v) (hB : B ≤ w.heap.size) (hbig : 0 < B) (hl : c.inp.length + c.dat.length + s.length ≤ 1048576) (hmost : (c.most : Int) ≤ 9223372036854775807) (hok : c.err = 0 → c.ok) (ha : AddR c s c') :
    Calls Tryd.prog 27 #[.pointer (some ⟨b, 0, none⟩), .string (S s)] w fun e w' => e = .returned (.int .i64 c'.err) ∧ Aft B w b p v c' w' := by
  obtain ⟨_, _, _, _, c4, _, c8⟩ := h.at
  unfold AddR at ha
  by_cases he : c.err = 0
  · rw [if_neg (by simp [he])] at ha
    obtain ⟨d, e0, hr, hc'⟩ := ha
    have s1 := S_size c.inp
    have s2 := S_size s
    have hcat := S_append c.inp s
    have lc : (c.inp ++ s).length = c.inp.length + s.length := by simp
    have f4 := h.free 4
    have hko := hok he
    have hro := runs_ok hr (add_ok hko s)
    have hderr : d.err = 0 := hro.2.2.1.trans he
    have H1 := Lib.hid (h.set 4 (.string (S (c.inp ++ s))) (c' := c.add s) (fun _ => rfl) rfl)
    have K1 := Lib.hid ((Keep.refl [b] w).setCell ⟨b, 4, none⟩ (.string (S (c.inp ++ s))) (by simp))
    have HR := Lib.hid hr
    have HM := Lib.hid hm
    rw [he] at c8
    clear h hr hok hm hro
    go_enter Tryd.func27, Tryd.ntmps27
    go_wp2_with fail
    go_step3
    go_wp2_with fail
    go_step3
    go_wp2_with fail
    generalize hw1 : w.setCell ⟨b, 4, none⟩ (.string (S (c.inp ++ s))) = w1 at *
    try rw [hw1]
    clear hw1 c4 c8 f4
    go_loopg [5] (c.add s).mu (fun g ev wr => ∃ cur : Ck, g = cur.mu ∧ Hid (Aft B w b p v cur wr) ∧ Hid (Runs cur d e0) ∧ Hid (cur.ok) ∧ Hid (cur.inp.length + cur.dat.length ≤ 1048576 ∧ cur.most = c.most ∧ cur.err = 0))
    case atStart => exact ⟨c.add s, rfl, Lib.hid (Aft.of H1.out K1.out), HR, Lib.hid hko, Lib.hid ⟨by show (c.inp ++ s).length + c.dat.length ≤ _; omega, rfl, he⟩⟩
    case round =>
      obtain ⟨cur, hg, HA, HRu, HK, HL⟩ := hrel
      obtain ⟨v1, hct, hk, hv⟩ := HA.out
      obtain ⟨hl1, hmo, hce⟩ := HL.out
      have hso := step_ok HK.out
      have hS := chunk_step B b p cur v1 wr (by
        obtain ⟨x, hx⟩ := HM.out
        exact (ML.keep ⟨x, hx⟩ hk (by
          simp only [List.mem_cons, not_or]
          refine ⟨hb, fun hh => ?_⟩
          have : v.ownBlock = some 0 := by simpa using hh
          have hlt : B ≤ 0 := by
            obtain ⟨ad, o, hbd, _⟩ := H1.out
            exact (hbd.own.lt _ this).1
          omega))) hb hct (Nat.le_trans hB hk.size) hl1 (by rw [hmo]; exact hmost) HK.out
      have HS := Lib.hid hS
      have HCt := Lib.hid (And.intro hct (And.intro hk hv))
      have HRc := Lib.hid (show (stepM cur).2 = 0 ∧ Runs (stepM cur).1 d e0 ∨ (stepM cur).2 ≠ 0 ∧ d = (stepM cur).1 ∧ e0 = (stepM cur).2 by
        cases HRu.out with
        | stop hh => exact .inr ⟨hh, rfl, rfl⟩
        | more hh hh2 => exact .inl ⟨hh, hh2⟩)
      have HSo := Lib.hid hso
      generalize hst : stepM cur = sr at HS HRc HSo
      obtain ⟨nx, er⟩ := sr
      dsimp only at HS HRc HSo
      clear hso hS hct hk hv HA HRu hst hl1 hmo hce
      by_cases h0 : er = 0
      · subst h0
        have hR2 : Runs nx d e0 := by
          rcases HRc.out with hh | hh
          · exact hh.2
          · exact absurd rfl hh.1
        have HR2 := Lib.hid hR2
        clear hR2
        go_wp2_with fail
        refine HS.out.mono ?_
        rintro e w2 ⟨rfl, v2, a1, a2, a3⟩
        have HA2 := Lib.hid (Aft.trans HCt.out.1 HCt.out.2.1 HCt.out.2.2 a1 a2 a3)
        clear a1 a2 a3
        go_wp2_with fail
        go_roundg nx.mu
        case measure => rw [hg]; exact HSo.out.1 (by first | rfl | trivial)
        case rel =>
          obtain ⟨q1, q2, q3, q4, q5, _⟩ := HSo.out
          exact ⟨nx, rfl, HA2, HR2, Lib.hid (q2 (.inl (by first | rfl | trivial))), Lib.hid ⟨Nat.le_trans q5 HL.out.1, q3.trans HL.out.2.1, q4.trans HL.out.2.2⟩⟩
      · have hde : d = nx ∧ e0 = er := by
          rcases HRc.out with hh | hh
          · exact absurd hh.1 h0
          · exact hh.2
        obtain ⟨rfl, rfl⟩ := hde
        by_cases h17 : e0 = 17
        · subst h17
          have HC := Lib.hid (show c' = d by rw [hc', if_pos rfl, ← hderr])
          clear hc'
          go_wp2_with fail
          refine HS.out.mono ?_
          rintro e w2 ⟨rfl, v2, a1, a2, a3⟩
          have HA2 := Lib.hid (Aft.trans HCt.out.1 HCt.out.2.1 HCt.out.2.2 a1 a2 a3)
          obtain ⟨_, _, _, _, _, _, e8⟩ := a1.at
          clear a1 a2 a3
          go_wp2_with fail
          rw [Exit.noGoto_ret]
          go_ret
          rw [HC.out]
          exact ⟨by rw [hderr]; rfl, HA2.out⟩
        · have q1 := (int_ne h0).1
          have q2 := (int_ne h17).1
          have HC := Lib.hid (show c' = { d with err := e0 } by rw [hc', if_neg h17])
          clear hc' h17 h0
          go_wp2_with fail
          refine HS.out.mono ?_
          rintro e w2 ⟨rfl, v2, a1, a2, a3⟩
          have HA2 := Lib.hid (Aft.trans HCt.out.1 HCt.out.2.1 HCt.out.2.2 a1 a2 a3)
          obtain ⟨_, _, _, _, _, _, e8⟩ := a1.at
          have g8 := a1.free 8
          clear a1 a2 a3
          go_wp2_with fail
          rw [Exit.noGoto_ret]
          go_ret
          obtain ⟨v3, a1, a2, a3⟩ := HA2.out
          rw [HC.out]
          exact ⟨rfl, v3, a1.set 8 _ (fun _ => rfl) rfl, a2.setCell _ _ (by simp), a3⟩
  · rw [if_pos he] at ha
    have q1 := (int_ne he).1
    have q2 := (int_ne he).2
    have H := Lib.hid h
    subst ha
    clear h
    go_enter Tryd.func27, Tryd.ntmps27
    go_wp2_with fail
    go_step3
    go_wp2_with fail
    rw [Exit.noGoto_ret]
    go_ret
    exact ⟨rfl, Aft.of H.out (Keep.refl _ _)⟩
end Go.Proofs.YtmfnciocnlmceaaDoor

/- Layer 11, plain laws: the document's line, number; the machine's steps one by one. No program. No conditions but those that each theorem states. -/
namespace Go.Proofs.YtmfnciocnlmceaaDoor
open Go.RowKit

theorem runs_step {c d : Ck} {e : Int} (h : Runs c d e) : (stepM c).2 = 0 ∧ Runs (stepM c).1 d e ∨ (stepM c).2 ≠ 0 ∧ d = (stepM c).1 ∧ e = (stepM c).2 := by
  cases h with
  | stop hh => exact .inr ⟨hh, rfl, rfl⟩
  | more hh hh2 => exact .inl ⟨hh, hh2⟩
theorem step0 {c : Ck} (h : c.st = 0) : stepM c = beginM c := by unfold stepM; rw [if_pos h]
theorem step1 {c : Ck} (h : c.st = 1) : stepM c = dataM c := by unfold stepM; rw [if_neg (by omega), if_pos h]
theorem step2 {c : Ck} (h : c.st = 2) : stepM c = closeM c := by unfold stepM; rw [if_neg (by omega), if_neg (by omega), if_pos h]
theorem step3 {c : Ck} (h : c.st = 3) : stepM c = trailM c := by unfold stepM; rw [if_neg (by omega), if_neg (by omega), if_neg (by omega), if_pos h]
theorem step4 {c : Ck} (h : c.st = 4) : stepM c = (c, 17) := by unfold stepM; rw [if_neg (by omega), if_neg (by omega), if_neg (by omega), if_neg (by omega)]
theorem runs_eq {c d : Ck} {e : Int} {r : Ck × Int} (h : Runs c d e) (hs : stepM c = r) : r.2 = 0 ∧ Runs r.1 d e ∨ r.2 ≠ 0 ∧ d = r.1 ∧ e = r.2 := by rw [← hs]; exact runs_step h
/-- a chunk's line -/
theorem runs_begin {c d : Ck} {e : Int} (h : Runs c d e) (h0 : c.st = 0) :
    ((lnC c.inp).e ≠ 0 ∧ d = c ∧ e = (lnC c.inp).e) ∨
    ((lnC c.inp).e = 0 ∧ numE (lnC c.inp).t ((c.most : Int) - c.dat.length) ≠ 0 ∧ d = { c with inp := (lnC c.inp).r } ∧ e = numE (lnC c.inp).t ((c.most : Int) - c.dat.length)) ∨
    ((lnC c.inp).e = 0 ∧ numE (lnC c.inp).t ((c.most : Int) - c.dat.length) = 0 ∧ Runs { c with inp := (lnC c.inp).r, left := (numV (lnC c.inp).t ((c.most : Int) - c.dat.length)).toNat, st := if numV (lnC c.inp).t ((c.most : Int) - c.dat.length) = 0 then 3 else 1 } d e) := by
  have hr := runs_eq h (step0 h0)
  unfold beginM at hr
  by_cases h1 : (lnC c.inp).e = 0
  · rw [if_neg (by simp [h1])] at hr
    by_cases h2 : numE (lnC c.inp).t ((c.most : Int) - c.dat.length) = 0
    · rw [if_neg (by simp [h2])] at hr
      rcases hr with hr | hr
      · exact .inr (.inr ⟨h1, h2, hr.2⟩)
      · exact absurd rfl hr.1
    · rw [if_pos h2] at hr
      rcases hr with hr | hr
      · exact absurd hr.1 h2
      · exact .inr (.inl ⟨h1, h2, hr.2⟩)
  · rw [if_pos h1] at hr
    rcases hr with hr | hr
    · exact absurd hr.1 h1
    · exact .inl ⟨h1, hr.2⟩
/-- a chunk's data -/
theorem runs_data {c d : Ck} {e : Int} (h : Runs c d e) (h0 : c.st = 1) :
    (c.inp.length < c.left ∧ d = { c with inp := [], dat := c.dat ++ c.inp, left := c.left - c.inp.length } ∧ e = 17) ∨
    (c.left ≤ c.inp.length ∧ Runs { c with inp := c.inp.drop c.left, dat := c.dat ++ c.inp.take c.left, left := 0, st := 2 } d e) := by
  have hr := runs_eq h (step1 h0)
  unfold dataM at hr
  by_cases h1 : c.inp.length < c.left
  · have hm : min c.left c.inp.length = c.inp.length := by omega
    rw [hm, if_pos (by omega), List.drop_length, List.take_length] at hr
    rcases hr with hr | hr
    · have := hr.1; simp at this
    · exact .inl ⟨h1, hr.2⟩
  · have hm : min c.left c.inp.length = c.left := by omega
    rw [hm, if_neg (by omega), Nat.sub_self] at hr
    rcases hr with hr | hr
    · exact .inr ⟨by omega, hr.2⟩
    · exact absurd rfl hr.1
/-- what follows a chunk's data -/
theorem runs_close {c d : Ck} {e : Int} (h : Runs c d e) (h0 : c.st = 2) :
    (c.inp.take 2 ≠ crlfC.take c.inp.length ∧ d = c ∧ e = 3) ∨
    (c.inp.take 2 = crlfC.take c.inp.length ∧ c.inp.length < 2 ∧ d = c ∧ e = 17) ∨
    (c.inp.take 2 = crlfC.take c.inp.length ∧ 2 ≤ c.inp.length ∧ Runs { c with inp := c.inp.drop 2, st := 0 } d e) := by
  have hr := runs_eq h (step2 h0)
  unfold closeM at hr
  by_cases h1 : c.inp.take 2 = crlfC.take c.inp.length
  · rw [if_neg (by simp [h1])] at hr
    by_cases h2 : c.inp.length < 2
    · rw [if_pos h2] at hr
      rcases hr with hr | hr
      · have := hr.1; simp at this
      · exact .inr (.inl ⟨h1, h2, hr.2⟩)
    · rw [if_neg h2] at hr
      rcases hr with hr | hr
      · exact .inr (.inr ⟨h1, by omega, hr.2⟩)
      · exact absurd rfl hr.1
  · rw [if_pos h1] at hr
    rcases hr with hr | hr
    · have := hr.1; simp at this
    · exact .inl ⟨h1, hr.2⟩
/-- a line behind the last chunk -/
theorem runs_trail {c d : Ck} {e : Int} (h : Runs c d e) (h0 : c.st = 3) :
    ((lnC c.inp).e ≠ 0 ∧ d = c ∧ e = (lnC c.inp).e) ∨
    ((lnC c.inp).e = 0 ∧ (lnC c.inp).t = [] ∧ d = { c with inp := (lnC c.inp).r, st := 4 } ∧ e = 17) ∨
    ((lnC c.inp).e = 0 ∧ (lnC c.inp).t ≠ [] ∧ parseE (lnC c.inp).t ≠ 0 ∧ d = { c with inp := (lnC c.inp).r } ∧ e = 3) ∨
    ((lnC c.inp).e = 0 ∧ (lnC c.inp).t ≠ [] ∧ parseE (lnC c.inp).t = 0 ∧ 16 ≤ c.flds ∧ d = { c with inp := (lnC c.inp).r, flds := c.flds + 1 } ∧ e = 4) ∨
    ((lnC c.inp).e = 0 ∧ (lnC c.inp).t ≠ [] ∧ parseE (lnC c.inp).t = 0 ∧ c.flds < 16 ∧ Runs { c with inp := (lnC c.inp).r, flds := c.flds + 1 } d e) := by
  have hr := runs_eq h (step3 h0)
  unfold trailM at hr
  by_cases h1 : (lnC c.inp).e = 0
  · rw [if_neg (by simp [h1])] at hr
    by_cases h2 : (lnC c.inp).t = []
    · rw [if_pos h2] at hr
      rcases hr with hr | hr
      · have hq := runs_eq hr.2 (step4 rfl)
        rcases hq with hq | hq
        · have := hq.1; simp at this
        · exact .inr (.inl ⟨h1, h2, hq.2⟩)
      · exact absurd rfl hr.1
    · rw [if_neg h2] at hr
      by_cases h3 : parseE (lnC c.inp).t = 0
      · rw [if_neg (by simp [h3])] at hr
        by_cases h4 : 16 < c.flds + 1
        · rw [if_pos h4] at hr
          rcases hr with hr | hr
          · have := hr.1; simp at this
          · exact .inr (.inr (.inr (.inl ⟨h1, h2, h3, by omega, hr.2⟩)))
        · rw [if_neg h4] at hr
          rcases hr with hr | hr
          · exact .inr (.inr (.inr (.inr ⟨h1, h2, h3, by omega, hr.2⟩)))
          · exact absurd rfl hr.1
      · rw [if_pos h3] at hr
        rcases hr with hr | hr
        · exact absurd hr.1 h3
        · have h5 : parseE (lnC c.inp).t = 3 := by rcases parseE_cases (lnC c.inp).t with h | h; exact absurd h h3; exact h
          exact .inr (.inr (.inl ⟨h1, h2, h3, hr.2.1, hr.2.2.trans h5⟩))
  · rw [if_pos h1] at hr
    rcases hr with hr | hr
    · exact absurd hr.1 h1
    · exact .inl ⟨h1, hr.2⟩

theorem suffix_crlf {l : List UInt8} {k : Nat} (h : l[k]? = some 10) : Lib.hasSuffix (l.take (k + 1)) crlfC = (decide (0 < k) && decide (l[k - 1]? = some 13)) := by
  unfold Lib.hasSuffix
  rw [Bool.eq_iff_iff, List.isSuffixOf_iff_suffix]
  have e1 : l.take (k + 1) = l.take k ++ [10] := take_snoc h
  rw [e1]
  cases k with
  | zero =>
    simp
    intro hs
    have := hs.length_le
    simp [crlfC] at this
  | succ j =>
    have hj : j < l.length := by have := (List.getElem?_eq_some_iff.1 h).1; omega
    obtain ⟨x, hx⟩ : ∃ x, l[j]? = some x := ⟨_, List.getElem?_eq_getElem hj⟩
    rw [take_snoc hx]
    have hs : (l.take j ++ [x] ++ [10] : List UInt8) = l.take j ++ [x, 10] := by simp
    rw [hs, show j + 1 - 1 = j by omega, hx]
    simp
    constructor
    · rintro ⟨p, hp⟩
      have := (List.append_inj' hp (by simp [crlfC])).2
      have h2 : (13 : UInt8) = x := by simpa [crlfC] using this
      exact h2.symm
    · rintro rfl
      exact ⟨l.take j, rfl⟩
/-- the place behind a line -/
def nxt (s : List UInt8) (a : Nat) : Nat := if (lnC (s.drop a)).e = 0 then s.length - (lnC (s.drop a)).r.length else 0
theorem ln_suffix (l : List UInt8) : (lnC l).r <:+ l := by
  rcases line_cases l with hn | ⟨k, hk, hkl, h256⟩
  · rw [line_short hn]; split <;> exact List.suffix_refl _
  · rw [line_at hk]
    split
    · exact List.drop_suffix _ _
    · exact List.suffix_refl _
theorem drop_of_suffix {s r : List UInt8} (h : r <:+ s) : s.drop (s.length - r.length) = r := by
  obtain ⟨p, rfl⟩ := h
  simp
theorem nxt_drop {s : List UInt8} {a : Nat} (h : (lnC (s.drop a)).e = 0) : s.drop (nxt s a) = (lnC (s.drop a)).r ∧ nxt s a ≤ s.length ∧ (a ≤ s.length → a + 2 ≤ nxt s a) := by
  have h1 := ln_suffix (s.drop a)
  have h2 := line_le (s.drop a)
  have h3 := h2.2.1 h
  rw [List.length_drop] at h3
  have hl := h1.length_le
  rw [List.length_drop] at hl
  unfold nxt
  rw [if_pos h]
  exact ⟨drop_of_suffix (h1.trans (List.drop_suffix _ _)), by omega, fun _ => by omega⟩
theorem dig_mem (b : UInt8) : digitsB.contains b = digOk b := by
  have : ∀ n : Fin 256, digitsB.contains (UInt8.ofNat n.1) = digOk (UInt8.ofNat n.1) := by decide +kernel
  have h := this ⟨b.toNat, b.toNat_lt⟩
  simpa using h
theorem numRest_at {t : List UInt8} {k : Nat} (hk : k ≤ t.length) (h1 : (t.take k).all digOk = true) (h2 : ∀ b, t[k]? = some b → digOk b = false) : numRest t = t.drop k := by
  unfold numRest
  refine Lib.trimLeftS_drop t digitsB k hk (fun j b hj hb => ?_) (fun b hb => ?_)
  · rw [dig_mem]
    exact List.all_eq_true.1 h1 b (List.mem_of_getElem? (i := j) (by rw [List.getElem?_take, if_pos hj]; exact hb))
  · rw [dig_mem]; exact h2 b hb
theorem num_len' (t : List UInt8) : (numRest t).length ≤ t.length := by unfold numRest Lib.trimLeftS; exact List.Sublist.length_le (List.dropWhile_sublist _)
theorem numT_at {t : List UInt8} {k : Nat} (hk : k ≤ t.length) (h : numRest t = t.drop k) : numT t = t.take k := by
  unfold numT
  rw [h, List.length_drop, show t.length - (t.length - k) = k by omega]
theorem sep_mem (b : UInt8) : decide (0 ≤ Lib.indexByte [32, 9, 59] b) = (decide (b = 32) || decide (b = 9) || decide (b = 59)) := by
  have : ∀ n : Fin 256, decide (0 ≤ Lib.indexByte [32, 9, 59] (UInt8.ofNat n.1)) = (decide (UInt8.ofNat n.1 = 32) || decide (UInt8.ofNat n.1 = 9) || decide (UInt8.ofNat n.1 = 59)) := by decide +kernel
  have h := this ⟨b.toNat, b.toNat_lt⟩
  simpa using h
/-- the document's number -/
def numV2 (t : List UInt8) (m : Int) : Int := if restOk (numRest t) then unhexV (numT t) m else 0

/-- what a body comes to: data, whether whole, how long the whole, error -/
structure Bdy where
  dat : List UInt8
  done : Bool
  size : Nat
  err : Int
def Bdy.cells (b : Bdy) : List Value := [.string (S b.dat), .bool b.done, .int .i64 (b.size : Nat), .int .i64 b.err]
def bodyOf (s : List UInt8) (d : Ck) (e : Int) : Bdy := ⟨d.dat, decide (d.st = 4), if d.st = 4 then s.length - d.inp.length else 0, if e = 17 then 0 else e⟩
def endB (b : Bdy) (e : Int) : Bdy := { b with err := if e = 17 then b.err else e }
end Go.Proofs.YtmfnciocnlmceaaDoor

/- Layer 11, plain laws: bytes that come piece by piece. No program. No conditions but those that each theorem states. -/
namespace Go.Proofs.YtmfnciocnlmceaaDoor
open Go.RowKit

theorem step_suffix (c : Ck) : (stepM c).1.inp <:+ c.inp := by
  have hl := ln_suffix c.inp
  unfold stepM
  split
  · unfold beginM; split
    · exact List.suffix_refl _
    · split <;> exact hl
  split
  · unfold dataM; split <;> exact List.drop_suffix _ _
  split
  · unfold closeM; split
    · exact List.suffix_refl _
    · split
      · exact List.suffix_refl _
      · exact List.drop_suffix _ _
  split
  · unfold trailM; split
    · exact List.suffix_refl _
    · split
      · exact hl
      · split <;> exact hl
  · exact List.suffix_refl _
theorem runs_suffix {c d : Ck} {e : Int} (h : Runs c d e) : d.inp <:+ c.inp := by
  induction h with
  | stop _ => exact step_suffix _
  | more _ _ ih => exact ih.trans (step_suffix _)
theorem step_st (c : Ck) (h : c.st ≤ 4) : (stepM c).1.st ≤ 4 ∧ ((stepM c).1.st = 4 → (stepM c).2 = 0 ∨ (stepM c).2 = 17) := by
  unfold stepM
  split
  · unfold beginM; split
    · exact ⟨h, fun hh => by simp only at hh; omega⟩
    · split
      · exact ⟨h, fun hh => by simp only at hh; omega⟩
      · exact ⟨by simp only; split <;> omega, fun _ => .inl rfl⟩
  split
  · unfold dataM; split
    · exact ⟨h, fun _ => .inr rfl⟩
    · exact ⟨by simp only; omega, fun _ => .inl rfl⟩
  split
  · unfold closeM; split
    · exact ⟨h, fun hh => by simp only at hh; omega⟩
    · split
      · exact ⟨h, fun _ => .inr rfl⟩
      · exact ⟨by simp only; omega, fun _ => .inl rfl⟩
  split
  · unfold trailM; split
    · exact ⟨h, fun hh => by simp only at hh; omega⟩
    · split
      · exact ⟨by simp only; omega, fun _ => .inl rfl⟩
      · split
        · exact ⟨h, fun hh => by simp only at hh; omega⟩
        · exact ⟨h, fun hh => by simp only at hh; omega⟩
  · exact ⟨h, fun _ => .inr rfl⟩
theorem runs_st {c d : Ck} {e : Int} (h : Runs c d e) (hc : c.st ≤ 4) : d.st ≤ 4 ∧ (d.st = 4 → e = 17) := by
  induction h with
  | stop hh => have := step_st _ hc; exact ⟨this.1, fun h4 => by rcases this.2 h4 with h | h; exact absurd h hh; exact h⟩
  | more _ _ ih => exact ih (step_st _ hc).1
/-- what a reader is behind all bytes -/
def Rdc (m : Int) (all : List UInt8) (c : Ck) : Prop := ∃ d e, Runs ((ck0 m).add all) d e ∧ c = { d with err := if e = 17 then 0 else e }
theorem rd_nil (m : Int) : Rdc m [] (ck0 m) := by
  refine ⟨ck0 m, 17, ?_, rfl⟩
  have h : stepM ((ck0 m).add []) = (ck0 m, 17) := by
    show beginM ⟨0, 0, (max m 0).toNat, 0, [], [], 0⟩ = _
    unfold beginM
    rw [if_pos (by show (lnC []).e ≠ 0; decide)]
    rfl
  have := Runs.stop (c := (ck0 m).add []) (by rw [h]; show (17 : Int) ≠ 0; decide)
  rw [h] at this
  exact this
theorem Rdc.mk' {m : Int} {all : List UInt8} {d : Ck} {e : Int} (h : Runs ((ck0 m).add all) d e) : Rdc m all { d with err := if e = 17 then 0 else e } := ⟨d, e, h, rfl⟩
theorem Rdc.sound {m : Int} {all : List UInt8} {c : Ck} (h : Rdc m all c) : (c.err = 0 → c.ok ∧ Runs ((ck0 m).add all) c 17) ∧ c.most = (max m 0).toNat ∧ c.inp.length + c.dat.length ≤ all.length ∧ c.st ≤ 4 ∧ (c.st = 4 → c.err = 0) ∧ c.inp <:+ all := by
  obtain ⟨d, e, hr, rfl⟩ := h
  have ho := runs_ok hr (add_ok (ck0_ok m) all)
  have hd : d.err = 0 := ho.2.2.1
  have hs := runs_st hr (show ((ck0 m).add all).st ≤ 4 by simp [Ck.add, ck0])
  have hx := runs_suffix hr
  refine ⟨fun h0 => ?_, ho.2.1, ?_, hs.1, fun h4 => ?_, ?_⟩
  · have he : e = 17 := by
      simp only at h0
      split at h0
      · assumption
      · exact absurd h0 (runs_ne hr)
    subst he
    have : ({ d with err := if (17 : Int) = 17 then 0 else 17 } : Ck) = d := by rw [if_pos rfl, ← hd]
    rw [this]
    exact ⟨ho.1 rfl, hr⟩
  · have := ho.2.2.2.1; simpa [Ck.add, ck0] using this
  · simp only; rw [if_pos (hs.2 h4)]
  · simpa [Ck.add, ck0] using hx
theorem Rdc.add {m : Int} {all s : List UInt8} {c c' : Ck} (h : Rdc m all c) (ha : AddR c s c') : (c.err = 0 → Rdc m (all ++ s) c') ∧ (c.err ≠ 0 → c' = c) := by
  unfold AddR at ha
  by_cases h0 : c.err = 0
  · rw [if_neg (by simp [h0])] at ha
    obtain ⟨d, e, hr, hc⟩ := ha
    have hq := (h.sound.1 h0).2
    have := (runs_app hq s).2 rfl d e hr
    refine ⟨fun _ => ⟨d, e, ?_, hc⟩, fun hh => absurd h0 hh⟩
    have ee : ((ck0 m).add all).add s = (ck0 m).add (all ++ s) := by simp [Ck.add]
    rw [← ee]; exact this
  · rw [if_pos h0] at ha
    exact ⟨fun hh => absurd hh h0, fun _ => ha⟩
theorem addR_ex (c : Ck) (s : List UInt8) (h : c.err = 0 → c.ok) : ∃ c', AddR c s c' := by
  unfold AddR
  by_cases h0 : c.err = 0
  · obtain ⟨d, e, hr⟩ := runs_ex (c.add s).mu (c.add s) (add_ok (h h0) s) (Nat.le_refl _)
    exact ⟨_, by rw [if_neg (by simp [h0])]; exact ⟨d, e, hr, rfl⟩⟩
  · exact ⟨c, by rw [if_pos h0]⟩
theorem Rdc.more {m : Int} {all : List UInt8} {c : Ck} (h : Rdc m all c) (s : List UInt8) : ∃ c', AddR c s c' := addR_ex c s (fun h0 => (h.sound.1 h0).1)
/-- the document's answer, of the reader -/
theorem Rdc.body {m : Int} {all : List UInt8} {c : Ck} (h : Rdc m all c) : ∃ d e, Runs ((ck0 m).add all) d e ∧ (bodyOf all d e).dat = c.dat ∧ (bodyOf all d e).done = decide (c.st = 4) ∧ (bodyOf all d e).size = (if c.st = 4 then all.length - c.inp.length else 0) ∧ (bodyOf all d e).err = c.err ∧ (c.st = 4 → all.drop (all.length - c.inp.length) = c.inp) := by
  have hs := h.sound
  obtain ⟨d, e, hr, rfl⟩ := h
  exact ⟨d, e, hr, rfl, rfl, rfl, rfl, fun _ => drop_of_suffix hs.2.2.2.2.2⟩
/-- with an error earlier, the error of all -/
theorem rd_prefix {m : Int} {all s : List UInt8} {c c' : Ck} (h : Rdc m all c) (he : c.err ≠ 0) (h' : Rdc m (all ++ s) c') : c'.err = c.err ∧ c'.dat = c.dat ∧ c'.st = c.st := by
  obtain ⟨d, e, hr, rfl⟩ := h
  obtain ⟨d', e', hr', rfl⟩ := h'
  have h17 : e ≠ 17 := by intro hh; subst hh; exact he rfl
  have := (runs_app hr s).1 h17
  have ee : ((ck0 m).add all).add s = (ck0 m).add (all ++ s) := by simp [Ck.add]
  rw [ee] at this
  obtain ⟨rfl, rfl⟩ := runs_det hr' this
  exact ⟨rfl, rfl, rfl⟩
theorem rd_det {m : Int} {all : List UInt8} {c c' : Ck} (h : Rdc m all c) (h' : Rdc m all c') : c = c' := by
  obtain ⟨d, e, hr, rfl⟩ := h
  obtain ⟨d', e', hr', rfl⟩ := h'
  obtain ⟨rfl, rfl⟩ := runs_det hr hr'
  rfl
/-- alike for who asks: the same error, data, end; without an error the same rest -/
def Like (a b : Ck) : Prop := b.err = a.err ∧ b.dat = a.dat ∧ b.st = a.st ∧ (a.err = 0 → b.inp = a.inp)
/-- pieces added one behind the other -/
def Rq (m : Int) (all : List UInt8) (c : Ck) : Prop := ∃ p s, all = p ++ s ∧ Rdc m p c ∧ (c.err = 0 → s = [])
theorem rq_nil (m : Int) : Rq m [] (ck0 m) := ⟨[], [], rfl, rd_nil m, fun _ => rfl⟩
theorem Rq.add {m : Int} {all s : List UInt8} {c c' : Ck} (h : Rq m all c) (ha : AddR c s c') : Rq m (all ++ s) c' := by
  obtain ⟨p, t, rfl, hr, hz⟩ := h
  have := hr.add ha
  by_cases h0 : c.err = 0
  · rw [hz h0]
    exact ⟨p ++ s, [], by simp, this.1 h0, fun _ => rfl⟩
  · have hc := this.2 h0
    subst hc
    exact ⟨p, t ++ s, by simp, hr, fun hh => absurd hh h0⟩
theorem Rq.sound {m : Int} {all : List UInt8} {c : Ck} (h : Rq m all c) : (c.err = 0 → c.ok) ∧ c.most = (max m 0).toNat ∧ c.inp.length + c.dat.length ≤ all.length ∧ c.st ≤ 4 := by
  obtain ⟨p, t, rfl, hr, hz⟩ := h
  have := hr.sound
  exact ⟨fun h0 => (this.1 h0).1, this.2.1, by rw [List.length_append]; omega, this.2.2.2.1⟩
theorem Rq.like {m : Int} {all : List UInt8} {a b : Ck} (ha : Rdc m all a) (hb : Rq m all b) : Like a b := by
  obtain ⟨p, t, rfl, hr, hz⟩ := hb
  by_cases h0 : b.err = 0
  · have := hz h0
    subst this
    rw [List.append_nil] at ha
    have := rd_det ha hr
    subst this
    exact ⟨rfl, rfl, rfl, fun _ => rfl⟩
  · obtain ⟨h1, h2, h3⟩ := rd_prefix hr h0 ha
    exact ⟨h1.symm, h2.symm, h3.symm, fun hh => absurd (h1.symm.trans hh) h0⟩
theorem Rdc.rq {m : Int} {all : List UInt8} {c : Ck} (h : Rdc m all c) : Rq m all c := ⟨all, [], by simp, h, fun _ => rfl⟩
theorem ckd_le {c : Ck} (h : c.ok) : c.dat.length ≤ c.most := by have := h.1; omega
theorem step_dat {c : Ck} (h : c.ok) : (stepM c).1.dat.length ≤ c.most := by
  have hm := (step_ok h).2.2.1
  have key : (stepM c).1.ok → (stepM c).1.dat.length ≤ c.most := fun hh => by have := ckd_le hh; omega
  unfold stepM at key hm ⊢
  split at key
  · rw [if_pos (by assumption)]; exact key (begin_ok h (by assumption)).2.1
  split at key
  · rw [if_neg (by assumption), if_pos (by assumption)]; exact key (data_ok h (by assumption)).2.1
  split at key
  · rw [if_neg (by assumption), if_neg (by assumption), if_pos (by assumption)]; exact key (close_ok h (by assumption)).2.1
  split at key
  · rw [if_neg (by assumption), if_neg (by assumption), if_neg (by assumption), if_pos (by assumption)]
    have : (trailM c).1.dat = c.dat := by
      unfold trailM
      split
      · rfl
      · split
        · rfl
        · split <;> rfl
    rw [this]; exact ckd_le h
  · rw [if_neg (by assumption), if_neg (by assumption), if_neg (by assumption), if_neg (by assumption)]; exact ckd_le h
theorem runs_dat {c d : Ck} {e : Int} (h : Runs c d e) (hc : c.ok) : d.dat.length ≤ c.most := by
  induction h with
  | stop hh => exact step_dat hc
  | more hh _ ih =>
    have hs := step_ok hc
    rw [← hs.2.2.1]
    exact ih (hs.2.1 (.inl hh))
theorem Rdc.dat {m : Int} {all : List UInt8} {c : Ck} (h : Rdc m all c) : c.dat.length ≤ (max m 0).toNat := by
  obtain ⟨d, e, hr, rfl⟩ := h
  exact runs_dat hr (add_ok (ck0_ok m) all)
end Go.Proofs.YtmfnciocnlmceaaDoor

/- Layer 11: a reader among others in memory. No conditions but on lengths. -/
namespace Go.Proofs.YtmfnciocnlmceaaDoor
open Go.RowKit Go.Shelf

/-- the reader's run, with so many steps at most -/
def runF : Nat → Ck → Ck × Int
  | 0, c => stepM c
  | n + 1, c => if (stepM c).2 = 0 then runF n (stepM c).1 else stepM c
theorem runF_runs : ∀ (n : Nat) (c : Ck), c.ok → c.mu ≤ n → Runs c (runF n c).1 (runF n c).2
  | n, c, h, hn => by
    by_cases h0 : (stepM c).2 = 0
    · have hs := step_ok h
      have hm := hs.1 h0
      match n, hn with
      | 0, hn => omega
      | n + 1, hn =>
        have hr := runF_runs n (stepM c).1 (hs.2.1 (.inl h0)) (by omega)
        rw [runF, if_pos h0]
        exact .more h0 hr
    · match n, hn with
      | 0, hn => rw [runF]; exact .stop h0
      | n + 1, hn => rw [runF, if_neg h0]; exact .stop h0
def addC (c : Ck) (s : List UInt8) : Ck := if c.err ≠ 0 then c else { (runF (c.add s).mu (c.add s)).1 with err := if (runF (c.add s).mu (c.add s)).2 = 17 then 0 else (runF (c.add s).mu (c.add s)).2 }
theorem addC_R {c : Ck} {s : List UInt8} (h : c.err = 0 → c.ok) : AddR c s (addC c s) := by
  unfold AddR addC
  by_cases h0 : c.err = 0
  · rw [if_neg (by simp [h0]), if_neg (by simp [h0])]
    exact ⟨_, _, runF_runs _ _ (add_ok (h h0) s) (Nat.le_refl _), rfl⟩
  · rw [if_pos h0, if_pos h0]


/-- a reader in memory: X: what its calls write -/
structure Cx (B : Nat) (w : World) (b : Nat) (X : List Nat) (p : List UInt8) (c : Ck) : Prop where
  at' : ∃ v, Ct B w b p c v ∧ ∀ g, v.ownBlock = some g → g ∈ X
  mem : b ∈ X
  lo : ∀ x ∈ X, B ≤ x ∧ x < w.heap.size
theorem Cx.keep {B b : Nat} {w w' : World} {X S : List Nat} {p : List UInt8} {c : Ck} (h : Cx B w b X p c) (k : Keep S w w') (hX : ∀ x ∈ X, x ∉ S) : Cx B w' b X p c := by
  obtain ⟨⟨v, h1, h2⟩, h3, h4⟩ := h
  exact ⟨⟨v, h1.keep k (hX b h3) (fun g hg => hX g (h2 g hg)), h2⟩, h3, fun x hx => ⟨(h4 x hx).1, Nat.lt_of_lt_of_le (h4 x hx).2 k.size⟩⟩
theorem Cx.keep0 {B b : Nat} {w w' : World} {X : List Nat} {p : List UInt8} {c : Ck} (h : Cx B w b X p c) (k : Keep [] w w') : Cx B w' b X p c := h.keep k (by simp)
theorem ML.keepB {B : Nat} {w w' : World} {X : List Nat} (hm : ML w) (hbig : 0 < B) (k : Keep X w w') (hX : ∀ x ∈ X, B ≤ x) : ML w' := hm.keep k (fun hh => absurd (hX _ hh) (by omega))
theorem ML.lt {w : World} (hm : ML w) : 0 < w.heap.size := let ⟨_, h⟩ := hm; World.block_lt_of_cell? w _ h
/-- what lies apart stays apart -/
theorem apart_new {w : World} {X X' Y : List Nat} (h : ∀ x ∈ X, x ∉ Y) (hn : ∀ x ∈ X', x ∈ X ∨ w.heap.size ≤ x) (hY : ∀ y ∈ Y, y < w.heap.size) : ∀ x ∈ X', x ∉ Y := fun x hx hy => by
  rcases hn x hx with h1 | h1
  · exact h x h1 hy
  · have := hY x hy; omega
theorem apart_symm {X Y : List Nat} (h : ∀ x ∈ X, x ∉ Y) : ∀ y ∈ Y, y ∉ X := fun y hy hx => h y hx hy
/-- seen from where the call began, nothing has changed -/
theorem Keep.above {w0 w w' : World} {X : List Nat} (h : Keep [] w0 w) (k : Keep X w w') (hX : ∀ x ∈ X, w0.heap.size ≤ x) : Keep [] w0 w' := h.trans' k (fun x hx hl => absurd (hX x hx) (by omega))
theorem cx_new (B : Nat) (m : Int) (w : World) (hB : B ≤ w.heap.size) :
    Calls Tryd.prog 25 #[.int .i64 m] w fun e w' => ∃ b, e = .returned (.pointer (some ⟨b, 0, none⟩)) ∧ w.heap.size ≤ b ∧ Cx B w' b [b] [] (ck0 m) ∧ Keep [] w w' := by
  refine (chunk_New B m w hB).mono ?_
  rintro e w' ⟨b, rfl, h1, h2, h3, h4⟩
  exact ⟨b, rfl, h1, ⟨⟨_, h3, by simp [Value.ownBlock]⟩, by simp, fun x hx => by simp at hx; subst hx; exact ⟨by omega, h2⟩⟩, h4⟩
theorem cx_add {B b : Nat} {X : List Nat} {p s : List UInt8} {c : Ck} {w : World} (h : Cx B w b X p c) (hm : ML w) (hbig : 0 < B) (hl : c.inp.length + c.dat.length + s.length ≤ 1048576) (hmost : (c.most : Int) ≤ 9223372036854775807) (hok : c.err = 0 → c.ok) :
    Calls Tryd.prog 27 #[.pointer (some ⟨b, 0, none⟩), .string (S s)] w fun e w' => e = .returned (.int .i64 (addC c s).err) ∧ ∃ X', Cx B w' b X' p (addC c s) ∧ Keep X w w' ∧ ∀ x ∈ X', x ∈ X ∨ w.heap.size ≤ x := by
  obtain ⟨⟨v, h1, h2⟩, h3, h4⟩ := h
  have hb := h4 b h3
  refine (chunk_Add B b p s c (addC c s) v w hm (by omega) h1 (by omega) hbig hl hmost hok (addC_R hok)).mono ?_
  rintro e w' ⟨rfl, v', g1, g2, g3⟩
  have g4 : Keep X w w' := g2.mono (fun x hx _ => by
    rcases List.mem_cons.1 hx with rfl | hx
    · exact h3
    · exact h2 x (by simpa using hx))
  refine ⟨rfl, b :: v'.ownBlock.toList, ⟨⟨v', g1, fun g hg => by rw [hg]; simp⟩, by simp, fun x hx => ?_⟩, g4, fun x hx => ?_⟩
  · rcases List.mem_cons.1 hx with rfl | hx
    · exact ⟨hb.1, Nat.lt_of_lt_of_le hb.2 g4.size⟩
    · obtain ⟨_, _, gb, _⟩ := g1
      exact gb.own.lt x (by simpa using hx)
  · rcases List.mem_cons.1 hx with rfl | hx
    · exact .inl h3
    · rcases g3 with e3 | ⟨g, e3, hg⟩
      · rw [e3] at hx; exact .inl (h2 x (by simpa using hx))
      · rw [e3] at hx
        have : x = g := by simpa using hx
        exact .inr (by omega)
theorem cx_take {B b : Nat} {X : List Nat} {p : List UInt8} {c : Ck} {w : World} (h : Cx B w b X p c) :
    Calls Tryd.prog 28 #[.pointer (some ⟨b, 0, none⟩)] w fun e w' => ∃ o, e = .returned (.string (S o)) ∧ c.dat = p ++ o ∧ Cx B w' b X c.dat c ∧ Keep X w w' := by
  obtain ⟨⟨v, h1, h2⟩, h3, h4⟩ := h
  refine (chunk_Take h1).mono ?_
  rintro e w' ⟨o, rfl, g1, g2, g3⟩
  have g4 : Keep X w w' := g3.mono (fun x hx _ => by
    rcases List.mem_cons.1 hx with rfl | hx
    · exact h3
    · exact h2 x (by simpa using hx))
  exact ⟨o, rfl, g1, ⟨⟨_, g2, by simp [Value.ownBlock]⟩, h3, fun x hx => ⟨(h4 x hx).1, Nat.lt_of_lt_of_le (h4 x hx).2 g4.size⟩⟩, g4⟩
theorem cx_done {B b : Nat} {X : List Nat} {p : List UInt8} {c : Ck} {w : World} (h : Cx B w b X p c) (hs : c.st ≤ 4) :
    Calls Tryd.prog 29 #[.pointer (some ⟨b, 0, none⟩)] w fun e w' => e = .returned (.bool (decide (c.st = 4))) ∧ w = w' := let ⟨⟨_, h1, _⟩, _, _⟩ := h; chunk_Done h1 hs
theorem cx_rest {B b : Nat} {X : List Nat} {p : List UInt8} {c : Ck} {w : World} (h : Cx B w b X p c) (hs : c.st ≤ 4) :
    Calls Tryd.prog 30 #[.pointer (some ⟨b, 0, none⟩)] w fun e w' => e = .returned (.string (S (if c.st = 4 then c.inp else []))) ∧ w = w' := let ⟨⟨_, h1, _⟩, _, _⟩ := h; chunk_Rest h1 hs
theorem cx_size {B b : Nat} {X : List Nat} {p : List UInt8} {c : Ck} {w : World} (h : Cx B w b X p c) :
    Calls Tryd.prog 31 #[.pointer (some ⟨b, 0, none⟩)] w fun e w' => e = .returned (.int .i64 (c.dat.length : Nat)) ∧ w = w' := let ⟨⟨_, h1, _⟩, _, _⟩ := h; chunk_Size h1
end Go.Proofs.YtmfnciocnlmceaaDoor

/- Layer 16: numbers in decimal, as they are written and read. Plain laws; no program. No conditions but on sizes. -/
namespace Go.Proofs.YtmfnciocnlmceaaDoor
open Go.RowKit

def digs : List UInt8 := [48, 49, 50, 51, 52, 53, 54, 55, 56, 57]
def GT : Int := 4611686018427387904
theorem digs_iff (b : UInt8) : digs.contains b = decB b := by
  unfold digs decB
  rw [Bool.eq_iff_iff]
  simp only [List.contains_iff_mem, List.mem_cons, List.not_mem_nil, or_false, Bool.and_eq_true, decide_eq_true_eq, ← UInt8.toNat_inj]
  simp
  omega
theorem dig_byte {u : Nat} (h : u < 10) : (UInt8.ofNat (48 + u)).toNat = 48 + u := by
  simp [UInt8.toNat_ofNat']; omega
theorem dig_dec {u : Nat} (h : u < 10) : decB (UInt8.ofNat (48 + u)) = true := by
  unfold decB; rw [dig_byte h]; simp; omega
theorem dec_small {u : Nat} (h : u < 10) : Lib.decDigits u = [UInt8.ofNat (48 + u)] := by rw [Lib.decDigits, dif_pos h]
theorem dec_big {u : Nat} (h : ¬ u < 10) : Lib.decDigits u = Lib.decDigits (u / 10) ++ [UInt8.ofNat (48 + u % 10)] := by rw [Lib.decDigits, dif_neg h]
theorem dec_all (u : Nat) : (Lib.decDigits u).all decB = true := by
  induction u using Nat.strongRecOn with
  | _ u ih =>
    by_cases h : u < 10
    · rw [dec_small h, List.all_cons, List.all_nil, dig_dec h]; rfl
    · rw [dec_big h, List.all_append, ih (u / 10) (by omega), List.all_cons, List.all_nil, dig_dec (show u % 10 < 10 by omega)]; rfl
theorem dec_ne (u : Nat) : Lib.decDigits u ≠ [] := by
  by_cases h : u < 10
  · rw [dec_small h]; simp
  · rw [dec_big h]; simp
theorem dec_head (u : Nat) (h1 : 1 ≤ u) : (Lib.decDigits u).head? ≠ some 48 := by
  induction u using Nat.strongRecOn with
  | _ u ih =>
    by_cases h : u < 10
    · rw [dec_small h]
      intro e
      have := congrArg UInt8.toNat (Option.some.inj e)
      rw [dig_byte h] at this
      have h48 : (48 : UInt8).toNat = 48 := rfl
      omega
    · rw [dec_big h, List.head?_append]
      have := ih (u / 10) (by omega) (by omega)
      cases hd : (Lib.decDigits (u / 10)).head? with
      | none => exact absurd (List.head?_eq_none_iff.1 hd) (dec_ne _)
      | some x => rw [hd] at this; simpa using this
theorem gather_append (m : Int) : ∀ (a b : List UInt8) (n : Int), gatherM m (a ++ b) n = (gatherM m a n).bind (gatherM m b)
  | [], b, n => rfl
  | x :: a, b, n => by
    simp only [List.cons_append, gatherM]
    split
    · exact gather_append m a b _
    · rfl
theorem digV_dig {u : Nat} (h : u < 10) : digV (UInt8.ofNat (48 + u)) = u := by
  unfold digV
  rw [dig_byte h, if_pos (by omega)]
  omega
theorem gather_dec (u : Nat) (h : (u : Int) ≤ 4611686018427387904) : gatherM 10 (Lib.decDigits u) 0 = some (u : Int) := by
  induction u using Nat.strongRecOn with
  | _ u ih =>
    by_cases h1 : u < 10
    · rw [dec_small h1]
      simp only [gatherM]
      rw [digV_dig h1, if_pos (by omega)]
      simp
    · rw [dec_big h1, gather_append, ih (u / 10) (by omega) (by omega)]
      simp only [Option.bind_some, gatherM]
      rw [digV_dig (show u % 10 < 10 by omega), if_pos (by omega)]
      congr 1
      omega
theorem dec_isDec (u : Nat) : isDecM (Lib.decDigits u) = true := by
  unfold isDecM
  rw [dec_all]
  have hn : (Lib.decDigits u).isEmpty = false := by simp [dec_ne]
  rw [hn]
  by_cases h : u < 10
  · rw [dec_small h]; simp
  · have := dec_head u (by omega)
    simp [this]
theorem undec_dec (u : Nat) (most : Int) (h : (u : Int) ≤ most) (hm : most ≤ 4611686018427387904) : undecV (Lib.decDigits u) most = u ∧ undecE (Lib.decDigits u) most = 0 := by
  unfold undecV undecE boundV boundE
  rw [dec_isDec, gather_dec u (by omega)]
  simp only [if_true]
  rw [if_neg (by omega), if_neg (by omega)]
  exact ⟨rfl, rfl⟩
theorem drop_nil {p : UInt8 → Bool} : ∀ {l : List UInt8}, l.dropWhile p = [] ↔ ∀ x ∈ l, p x = true
  | [] => by simp
  | x :: l => by
    cases h : p x with
    | true => rw [List.dropWhile_cons_of_pos h, drop_nil]; simp [h]
    | false => rw [List.dropWhile_cons_of_neg (by simp [h])]; simp [h]
theorem trim_dec {l : List UInt8} (h : l.all decB = true) : Lib.trimS l digs = [] := by
  have h1 : Lib.trimRightS l digs = [] := by
    unfold Lib.trimRightS
    rw [drop_nil.2]
    · rfl
    · intro x hx
      rw [digs_iff]
      exact List.all_eq_true.1 h x (List.mem_reverse.1 hx)
  unfold Lib.trimS
  rw [h1]; rfl
theorem trim_nodec {l : List UInt8} (h : l.all decB = false) : Lib.trimS l digs ≠ [] := by
  intro he
  obtain ⟨x, hx, hn⟩ := List.all_eq_false.1 h
  unfold Lib.trimS Lib.trimLeftS at he
  have h1 := drop_nil.1 he
  have h2 : ∀ y ∈ l, digs.contains y = true := by
    intro y hy
    unfold Lib.trimRightS at h1
    by_cases hm : y ∈ (l.reverse.dropWhile (digs.contains ·)).reverse
    · exact h1 y hm
    · have : l.reverse = l.reverse.takeWhile (digs.contains ·) ++ l.reverse.dropWhile (digs.contains ·) := (List.takeWhile_append_dropWhile).symm
      have hy' : y ∈ l.reverse := List.mem_reverse.2 hy
      rw [this] at hy'
      rcases List.mem_append.1 hy' with h3 | h3
      · exact List.all_eq_true.1 List.all_takeWhile y h3
      · exact absurd (List.mem_reverse.2 h3) hm
  have := h2 x hx
  rw [digs_iff] at this
  exact hn this

def numD (l : List UInt8) : List UInt8 := if Lib.trimLeftB l 48 = [] then [48] else Lib.trimLeftB l 48
def numN (l : List UInt8) : Int := if l = [] ∨ l.all decB = false then 0 else if undecE (numD l) GT = 14 then GT else undecV (numD l) GT
def numI (l : List UInt8) : Bool := !l.isEmpty && l.all decB
def numK (l : List UInt8) : Bool := l.all decB
theorem num_dec (u : Nat) (h : (u : Int) ≤ 4611686018427387904) : numN (Lib.decDigits u) = u ∧ numI (Lib.decDigits u) = true ∧ numK (Lib.decDigits u) = true := by
  have hd : numD (Lib.decDigits u) = Lib.decDigits u := by
    unfold numD
    by_cases h0 : u = 0
    · subst h0; rw [dec_small (by omega)]; rfl
    · have hh := dec_head u (by omega)
      have ht : Lib.trimLeftB (Lib.decDigits u) 48 = Lib.decDigits u := by
        unfold Lib.trimLeftB
        cases hc : Lib.decDigits u with
        | nil => rfl
        | cons x r =>
          rw [hc] at hh
          have : x ≠ 48 := by simpa using hh
          rw [List.dropWhile_cons_of_neg (by simpa using this)]
      rw [ht, if_neg (dec_ne u)]
  refine ⟨?_, ?_, dec_all u⟩
  · unfold numN
    rw [if_neg (by simp [dec_ne, dec_all]), hd, (undec_dec u GT h (by unfold GT; omega)).1, (undec_dec u GT h (by unfold GT; omega)).2]
    rfl
  · unfold numI; rw [dec_all]; simp [dec_ne]
end Go.Proofs.YtmfnciocnlmceaaDoor

/- Layer 16: number, isUnit. No conditions but on lengths. -/
namespace Go.Proofs.YtmfnciocnlmceaaDoor
open Go.RowKit Go.Shelf

def NumOut (w : World) (l : List UInt8) (e : Ending) (w' : World) : Prop := e = .returned (.tuple #[.agg #[.int .i64 (numN l), .bool (numI l)], .bool (numK l)]) ∧ Keep [] w w'
theorem num_ret {a c : Int} {b d x y : Bool} (h : a = c) (h2 : b = d) (h3 : x = y) : Ending.returned (.tuple #[.agg #[.int .i64 a, .bool b], .bool x]) = .returned (.tuple #[.agg #[.int .i64 c, .bool d], .bool y]) := by rw [h, h2, h3]

end Go.Proofs.YtmfnciocnlmceaaDoor

/- Layer 16: isUnit. No conditions but on lengths. -/
namespace Go.Proofs.YtmfnciocnlmceaaDoor
open Go.RowKit Go.Shelf

def unitB : List UInt8 := [98, 121, 116, 101, 115, 61]
/-- the byte of a text that stands for a byte of the unit -/
def unitOk (b c : UInt8) : Bool := c == b || decide (97 ≤ b.toNat) && decide (c.toNat = b.toNat - 32)
def isUnitM (l : List UInt8) : Bool := decide (6 ≤ l.length) && (l.zip unitB).all fun p => unitOk p.2 p.1

def unitCells : Array Value := #[.int .u8 98, .int .u8 121, .int .u8 116, .int .u8 101, .int .u8 115, .int .u8 61]
theorem unit_cell (w : World) (o : Obj) {T : TypeId} {fr : Nat × Nat} (ho : o = .cells unitCells T fr) {k : Nat} {b : UInt8} (h : unitB[k]? = some b) : (w.alloc o).cell? ⟨w.heap.size, k, none⟩ = some (.int .u8 (b.toNat : Nat)) := by
  subst ho
  have hh : (w.alloc (.cells unitCells T fr)).heap[w.heap.size]? = some (.cells unitCells T fr) := heap_alloc_new w _
  have hc : unitCells[k]? = some (.int .u8 (b.toNat : Nat)) := by
    match k, h with
    | 0, h => cases h; rfl
    | 1, h => cases h; rfl
    | 2, h => cases h; rfl
    | 3, h => cases h; rfl
    | 4, h => cases h; rfl
    | 5, h => cases h; rfl
    | k + 6, h => simp [unitB] at h
  unfold World.cell?
  simp only [hh]
  exact hc
theorem zip_take {l : List UInt8} {k : Nat} {b c : UInt8} (hb : unitB[k]? = some b) (hc : l[k]? = some c) : (l.zip unitB).take (k + 1) = (l.zip unitB).take k ++ [(c, b)] := by
  rw [List.take_add_one, (List.getElem?_zip_eq_some (z := (c, b))).2 ⟨hc, hb⟩]; rfl

end Go.Proofs.YtmfnciocnlmceaaDoor

/- Layer 10: the text of a value, in quotes or not: both sides. No conditions but on lengths. -/
namespace Go.Proofs.YtmfnciocnlmceaaDoor
open Go.RowKit Go.Shelf

/-- behind the first quote -/
def unqM : List UInt8 → List UInt8 → List UInt8 × Bool
  | [], _ => ([], false)
  | [c], out => if c.toNat = 34 then (out, true) else ([], false)
  | c :: d :: r, out => if c.toNat = 34 then (out, false) else if c.toNat = 92 then unqM r (out ++ [d]) else unqM (d :: r) (out ++ [c])
def unqQ : List UInt8 → List UInt8 × Bool
  | c :: d :: r => if c.toNat = 34 then unqM (d :: r) [] else ([], false)
  | _ => ([], false)
def unqW (s : List UInt8) : List UInt8 × Bool := if isTok s then (s, true) else unqQ s
theorem unqM_quote {c : UInt8} {r out : List UInt8} (h : c.toNat = 34) : unqM (c :: r) out = (out, r.isEmpty) := by
  cases r with
  | nil => unfold unqM; rw [if_pos h]; rfl
  | cons d r => unfold unqM; rw [if_pos h]; rfl
theorem unqM_slash {c d : UInt8} {r out : List UInt8} (h : c.toNat = 92) : unqM (c :: d :: r) out = unqM r (out ++ [d]) := by
  conv => lhs; unfold unqM
  rw [if_neg (by omega), if_pos h]
theorem unqM_slash_end {c : UInt8} {out : List UInt8} (h : c.toNat ≠ 34) : unqM [c] out = ([], false) := by
  unfold unqM; rw [if_neg h]
theorem unqM_plain {c : UInt8} {r out : List UInt8} (h : c.toNat ≠ 34) (h2 : c.toNat ≠ 92) : unqM (c :: r) out = unqM r (out ++ [c]) := by
  cases r with
  | nil => unfold unqM; rw [if_neg h]
  | cons d r =>
    conv => lhs; unfold unqM
    rw [if_neg h, if_neg h2]
theorem unqM_len : ∀ (n : Nat) (s out : List UInt8), s.length ≤ n → (unqM s out).1.length ≤ out.length + s.length
  | _, [], out, _ => by simp [unqM]
  | _, [c], out, _ => by unfold unqM; split <;> simp
  | 0, c :: d :: r, out, h => by simp at h
  | 1, c :: d :: r, out, h => by simp at h
  | n + 2, c :: d :: r, out, h => by
    unfold unqM
    split
    · simp
    · split
      · have := unqM_len n r (out ++ [d]) (by simp at h; omega)
        simp at this ⊢; omega
      · have := unqM_len (n + 1) (d :: r) (out ++ [c]) (by simp at h ⊢; omega)
        simp at this ⊢; omega
theorem unqW_len (s : List UInt8) : (unqW s).1.length ≤ s.length := by
  unfold unqW
  split
  · simp
  · unfold unqQ
    split
    · split
      · exact Nat.le_trans (unqM_len _ _ [] (Nat.le_refl _)) (by simp)
      · simp
    · simp
theorem str_ret {a c : List UInt8} {b d : Bool} (h : (a, b) = (c, d)) : Ending.returned (.tuple #[.string (S a), .bool b]) = .returned (.tuple #[.string (S c), .bool d]) := by cases h; rfl
theorem str_ret' {x : List UInt8 × Bool} {c : List UInt8} {d : Bool} (h : x = (c, d)) : Ending.returned (.tuple #[.string (S c), .bool d]) = .returned (.tuple #[.string (S x.1), .bool x.2]) := by rw [h]

end Go.Proofs.YtmfnciocnlmceaaDoor

/- Layer 10: the document's Parse, its result written out. No conditions but on lengths. -/
namespace Go.Proofs.YtmfnciocnlmceaaDoor
open Go.RowKit Go.Shelf

theorem ref_parse_is {l n v : List UInt8} {k : Int} (w : World) (hl : l.length ≤ 4611686018427387904) (hv : parseV l = ⟨n, v⟩) (he : parseE l = k) :
    Calls Tryd.prog 87 #[.string (S l)] w fun e w' => e = .returned (.tuple #[.agg #[.string (S n), .string (S v)], .int .i64 k]) ∧ Keep [] w w' := by
  have h := ref_Parse l w hl
  unfold RefParse at h
  rw [hv, he] at h
  exact h

end Go.Proofs.YtmfnciocnlmceaaDoor

/- Layer 10: the document's Split. No conditions but on lengths. -/
namespace Go.Proofs.YtmfnciocnlmceaaDoor
open Go.RowKit Go.Shelf

theorem hasSuffix_two {l : List UInt8} {a b : UInt8} : Lib.hasSuffix l [a, b] = true ↔ ∃ x, l = x ++ [a, b] := by
  unfold Lib.hasSuffix
  constructor
  · intro h
    obtain ⟨x, hx⟩ : [a, b] <:+ l := by simpa using h
    exact ⟨x, hx.symm⟩
  · rintro ⟨x, rfl⟩
    simp
theorem trimSuffix_two {x : List UInt8} {a b : UInt8} : Lib.trimSuffix (x ++ [a, b]) [a, b] = x := by
  have h : Lib.hasSuffix (x ++ [a, b]) [a, b] = true := hasSuffix_two.2 ⟨x, rfl⟩
  unfold Lib.trimSuffix
  rw [if_pos h]
  simp
/-- a line that ends in LF: as the document takes it -/
theorem line_no {l : List UInt8} (h : l.length < 2 ∨ Lib.indexByte l 13 ≠ (l.length : Int) - 2) : lineM l = none := by
  unfold lineM
  rw [if_neg]
  rintro ⟨h1, h2⟩
  obtain ⟨x, rfl⟩ := hasSuffix_two.1 h1
  rw [trimSuffix_two] at h2
  have e : Lib.indexByte (x ++ [13, 10]) 13 = x.length := by
    have hge := Lib.indexByte_ge x 13
    have hn := Lib.indexByte_none (l := x) (c := 13) (by omega)
    refine indexByte_at (by simp) fun j hj => ?_
    rw [List.getElem?_append_left hj]
    exact hn j
  rw [e] at h
  simp at h
  omega
theorem line_yes {l : List UInt8} (hn : l[l.length - 1]? = some 10) (h1 : 2 ≤ l.length) (h : Lib.indexByte l 13 = (l.length : Int) - 2) : lineM l = some (l.take (l.length - 2)) := by
  have h2 : Lib.indexByte l 13 = ((l.length - 2 : Nat) : Int) := by rw [h]; omega
  obtain ⟨h3, h4⟩ := Lib.indexByte_some h2
  have e : l = l.take (l.length - 2) ++ [13, 10] := by
    have e1 : l.drop (l.length - 2) = [13, 10] := by
      rw [drop_at h3, show l.length - 2 + 1 = l.length - 1 by omega, drop_at hn]
      simp; omega
    rw [← e1, List.take_append_drop]
  have hs : Lib.hasSuffix l [13, 10] = true := hasSuffix_two.2 ⟨_, e⟩
  have ht : Lib.trimSuffix l [13, 10] = l.take (l.length - 2) := by
    conv => lhs; rw [e]
    exact trimSuffix_two
  unfold lineM
  rw [ht, if_pos]
  refine ⟨hs, ?_⟩
  rw [indexByte_no]
  · omega
  · intro j hj
    rw [List.getElem?_take] at hj
    split at hj
    · exact h4 j (by assumption) hj
    · cases hj

theorem isEmpty_false {l : List UInt8} (h : l ≠ []) : l.isEmpty = false := by cases l <;> simp at *
theorem ret4 {a b c c' d : Value} (h : c = c') : Ending.returned (.tuple #[a, b, c, d]) = Ending.returned (.tuple #[a, b, c', d]) := by rw [h]
/-- where the document's loop stands -/
def Stage (s st : List UInt8) (F : List Fld) (n : Nat) (first : Bool) : Prop :=
  (first = true ∧ st = [] ∧ F = [] ∧ n = 0) ∨ (first = false ∧ ∃ k, readM s = loopM s st k F n ∧ 4097 - n ≤ k)

end Go.Proofs.YtmfnciocnlmceaaDoor

/- Layer 10: param, Params: both sides. No conditions but on lengths. -/
namespace Go.Proofs.YtmfnciocnlmceaaDoor
open Go.RowKit Go.Shelf

/-- a parameter; false: it is none -/
def parM (x : List UInt8) : Fld × Bool :=
  if (Lib.cut x [61]).2.2 && isTok (Lib.cut x [61]).1 then (⟨lowW (Lib.cut x [61]).1, (unqW (Lib.cut x [61]).2.1).1⟩, (unqW (Lib.cut x [61]).2.1).2) else (⟨[], []⟩, false)
def parsM : List (List UInt8) → List Fld → Option (List Fld)
  | [], out => some out
  | x :: r, out => if x = [] then parsM r out else if (parM x).2 then parsM r (out ++ [(parM x).1]) else none
structure Prm where
  hd : List UInt8
  F : List Fld
  e : Int
def paramsM (s : List UInt8) : Prm := match parsM (cutW s 59).tail [] with
  | none => ⟨[], [], 3⟩
  | some F => ⟨(cutW s 59).headD [], F, 0⟩
def ParOut (x : Fld × Bool) (w : World) (e : Ending) (w' : World) : Prop := e = .returned (.tuple #[.agg #[.string (S x.1.name), .string (S x.1.value)], .bool x.2]) ∧ Keep [] w w'

def PrmOut (w : World) (r : Prm) (e : Ending) (w' : World) : Prop := ∃ v, e = .returned (.tuple #[.string (S r.hd), v, .int .i64 r.e]) ∧ Own Fld.cells 2 w.heap.size 26 w' v r.F ∧ Keep [] w w'
theorem drop_atG {α : Type} {l : List α} {k : Nat} {c : α} (h : l[k]? = some c) : l.drop k = c :: l.drop (k + 1) := by
  obtain ⟨hl, hc⟩ := List.getElem?_eq_some_iff.1 h
  rw [List.drop_eq_getElem_cons hl, hc]
theorem trimW_len (l : List UInt8) : (trimW l).length ≤ l.length := by
  unfold trimW Lib.trimS Lib.trimLeftS Lib.trimRightS
  refine Nat.le_trans (List.dropWhile_sublist _).length_le ?_
  rw [List.length_reverse]
  refine Nat.le_trans (List.dropWhile_sublist _).length_le ?_
  simp
theorem cutM_elem (b : UInt8) (m : Nat) : ∀ (l : List UInt8) (q : Bool) (p : List UInt8), p.length + l.length ≤ m → ∀ x ∈ cutM b l q p, x.length ≤ m
  | [], q, p, h, x, hx => by
    simp [cutM] at hx
    subst hx
    have := trimW_len p
    simp at h; omega
  | [c], q, p, h, x, hx => by
    rw [cutM.eq_def] at hx; dsimp only at hx
    split at hx
    · exact cutM_elem b m [] _ _ (by simp at h ⊢; omega) x hx
    · split at hx
      · simp at hx
        subst hx
        have := trimW_len (p ++ [c])
        simp at h this; omega
      · split at hx
        · rcases List.mem_cons.1 hx with rfl | hx
          · have := trimW_len p
            simp at h; omega
          · exact cutM_elem b m [] _ _ (by simp at h ⊢) x hx
        · exact cutM_elem b m [] _ _ (by simp at h ⊢; omega) x hx
  | c :: d :: r, q, p, h, x, hx => by
    rw [cutM.eq_def] at hx; dsimp only at hx
    split at hx
    · exact cutM_elem b m (d :: r) _ _ (by simp at h ⊢; omega) x hx
    · split at hx
      · exact cutM_elem b m r _ _ (by simp at h ⊢; omega) x hx
      · split at hx
        · rcases List.mem_cons.1 hx with rfl | hx
          · have := trimW_len p
            simp at h; omega
          · exact cutM_elem b m (d :: r) _ _ (by simp at h ⊢; omega) x hx
        · exact cutM_elem b m (d :: r) _ _ (by simp at h ⊢; omega) x hx
theorem cutW_elem {l : List UInt8} {b : UInt8} {x : List UInt8} (h : x ∈ cutW l b) : x.length ≤ l.length := cutM_elem b l.length l false [] (by simp) x h

end Go.Proofs.YtmfnciocnlmceaaDoor

/- Layer 16: bounds. No conditions but on lengths. -/
namespace Go.Proofs.YtmfnciocnlmceaaDoor
open Go.RowKit Go.Shelf

structure Bds where
  ln : Int
  li : Bool
  hn : Int
  hi : Bool
  ok : Bool
def bdsM (l : List UInt8) : Bds :=
  if isUnitM l then
    let c := Lib.cut (l.drop 6) [45]
    ⟨numN c.1, numI c.1, numN c.2.1, numI c.2.1, c.2.2 && numK c.1 && numK c.2.1 && (numI c.1 || numI c.2.1) && !(numI c.1 && numI c.2.1 && decide (numN c.2.1 < numN c.1))⟩
  else ⟨0, false, 0, false, false⟩
def BdsOut (w : World) (r : Bds) (e : Ending) (w' : World) : Prop := e = .returned (.tuple #[.agg #[.int .i64 r.ln, .bool r.li], .agg #[.int .i64 r.hn, .bool r.hi], .bool r.ok]) ∧ Keep [] w w'

end Go.Proofs.YtmfnciocnlmceaaDoor

/- Layer 16: Parse. No conditions but on lengths. -/
namespace Go.Proofs.YtmfnciocnlmceaaDoor
open Go.RowKit Go.Shelf

def rangeB : List UInt8 := [82, 97, 110, 103, 101]
structure Prt where
  kind : Int
  a : Int
  b : Int
  deriving DecidableEq
/-- what is asked for -/
def prtM (n : Int) (r : Bds) (size : Int) : Prt :=
  if n ≠ 1 ∨ r.ok = false then ⟨1, 0, max size 0 - 1⟩
  else if size ≤ 0 ∨ size ≤ r.ln ∨ (r.li = false ∧ r.hn = 0) then ⟨3, 0, 0⟩
  else if r.li = false then ⟨2, size - min r.hn size, max size 0 - 1⟩
  else if r.hi then ⟨2, r.ln, min r.hn (max size 0 - 1)⟩
  else ⟨2, r.ln, max size 0 - 1⟩
def parseM (L : List Fld) (size : Int) : Prt := prtM (getN L rangeB) (bdsM (getV L rangeB)) size

theorem numN_range (l : List UInt8) : 0 ≤ numN l ∧ numN l ≤ GT := by
  have h := undec_range (numD l) GT
  unfold numN
  have hG : GT = 4611686018427387904 := rfl
  split
  · omega
  · split
    · omega
    · by_cases h0 : undecE (numD l) GT = 0
      · exact h.1 h0
      · have := (h.2 h0).1; omega
theorem bds_range (l : List UInt8) : 0 ≤ (bdsM l).ln ∧ 0 ≤ (bdsM l).hn ∧ (bdsM l).ln ≤ GT ∧ (bdsM l).hn ≤ GT := by
  have hG : GT = 4611686018427387904 := rfl
  unfold bdsM
  split
  · exact ⟨(numN_range _).1, (numN_range _).1, (numN_range _).2, (numN_range _).2⟩
  · exact ⟨by decide, by decide, by decide, by decide⟩
theorem prt_ret {r : Prt} {a b c : Int} (h : r = ⟨a, b, c⟩) : Ending.returned (.tuple #[.int .i64 a, .int .i64 b, .int .i64 c]) = .returned (.tuple #[.int .i64 r.kind, .int .i64 r.a, .int .i64 r.b]) := by rw [h]

end Go.Proofs.YtmfnciocnlmceaaDoor

/- Layer 1: numbers in decimal are written. No conditions but on the numbers' table. -/
namespace Go.Proofs.YtmfnciocnlmceaaDoor
open Go.RowKit Go.Shelf

/-- the library's table of powers of ten is as it was laid -/
def P10 (w : World) : Prop := Lib.TabIs Tryd.prog w "internal/strconv.uint64pow10" .u64 Lib.pow10Tab
theorem P10.keep {w w' : World} {S : List Nat} (h : P10 w) (k : Keep S w w') (hn : ∀ g, Tryd.prog.globalNamed "internal/strconv.uint64pow10" = some g → g ∉ S) : P10 w' := by
  unfold P10 Lib.TabIs World.var? at *
  cases hg : Tryd.prog.globalNamed "internal/strconv.uint64pow10" with
  | none => simp [hg] at h
  | some g =>
    try rw [hg] at h
    simp only [Option.bind_some] at h ⊢
    cases ho : w.heap[g]? with
    | none => rw [ho] at h; simp at h
    | some o =>
      rw [k.heap ho (hn g hg)]
      rw [ho] at h
      exact h
theorem P10.keep0 {w w' : World} (h : P10 w) (k : Keep [] w w') : P10 w' := h.keep k (by simp)
theorem laid_at {P : Program} {W : World} {name : String} {k : IntKind} {zs : List Int} {g : Nat} {t e : TypeId} {n : Nat}
    (hg : P.globalNamed name = some g) (hty : (P.globals[g]?).map (·.type) = some t) (ht : P.underlying t = some (.array n e)) (he : P.underlying e = some (.int k)) (hce : P.cellsOf e = 1) (hct : P.cellsOf t = n) :
    ∀ {laid : List (String × DataW Unit)} {ps : List MemPlace}, (name, Lib.tabData k zs) ∈ laid → DataW.LaidVars P W laid ps → Lib.TabIs P W name k zs
  | [], ps, hm, _ => by simp at hm
  | x :: r, ps, hm, h => by
    obtain ⟨g', t', cs, fuel, p, q, hg', ht', hvar, hd, hr, _⟩ := h
    rcases List.mem_cons.1 hm with e | hm
    · subst e
      obtain rfl := Option.some.inj (hg.symm.trans hg')
      obtain rfl := Option.some.inj (hty.symm.trans ht')
      unfold Lib.TabIs
      rw [hvar, ← Lib.cells_of_tab ht he hce hct hd]
    · exact laid_at hg hty ht he hce hct hm hr
theorem P10.laid {W : World} {laid : List (String × DataW Unit)} (h : laidMet Tryd.prog laid W) (hm : ("internal/strconv.uint64pow10", Lib.tabData .u64 Lib.pow10Tab) ∈ laid := by first | (repeat (first | exact List.Mem.head _ | exact List.Mem.tail _ (List.Mem.head _) | exact List.Mem.tail _ (List.Mem.tail _ (List.Mem.head _)))) | simp) : P10 W := by
  obtain ⟨ps, h, _⟩ := h
  exact laid_at (g := 1) (t := 154) (e := 121) (n := 20) (by kernel_rfl) rfl (by kernel_rfl) (by kernel_rfl) (by kernel_rfl) (by kernel_rfl) hm h
theorem keep_grow (w : World) (k : Nat) (os : Array Obj) : Keep [] w (Sort.grow (w.drewN k) os) :=
  ⟨rfl, rfl, rfl, by simp [Sort.grow, World.drewN], fun i hi _ => by
    show (w.heap ++ os)[i]? = w.heap[i]?
    rw [Array.getElem?_append_left hi]⟩
theorem hexa_Dec (n : Int) (w : World) (hn : in64 n) (hp : P10 w) :
    Calls Tryd.prog 47 #[.int .i64 n] w fun e w' => e = .returned (.string (S (Lib.itoa n))) ∧ Keep [] w w' := by
  have hI := Lib.hid (fun w' (k : Keep [] w w') => Tryd.strconv_Itoa n hn.1 hn.2 w' (hp.keep0 k))
  go_enter Tryd.func47, Tryd.ntmps47
  go_wp2_with fail
  refine (hI.out _ (Keep.refl _ _)).mono ?_
  rintro e w1 ⟨rfl, k, os, rfl⟩
  have hk := keep_grow w k os
  generalize Sort.grow (w.drewN k) os = w1 at hk
  go_wp2_with fail
  go_ret
  exact ⟨rfl, hk⟩
theorem itoa_len (n : Int) (h : in64 n) : (Lib.itoa n).length ≤ 21 := Lib.itoa_length_le n h.1 h.2
/-- 'bytes ' -/
def saidB : List UInt8 := [98, 121, 116, 101, 115, 32]
def prnOk (a b n : Int) : Bool := decide (0 ≤ a) && decide (a ≤ b) && decide (b < n) && decide (n ≤ 4611686018427387904)
/-- a part as it is written -/
def prnS (a b n : Int) : List UInt8 := if prnOk a b n then saidB ++ Lib.itoa a ++ [45] ++ Lib.itoa b ++ [47] ++ Lib.itoa n else []
def prnE (a b n : Int) : Int := if prnOk a b n then 0 else 1
def unmetS (n : Int) : List UInt8 := [98, 121, 116, 101, 115, 32, 42, 47] ++ Lib.itoa (max n 0)

end Go.Proofs.YtmfnciocnlmceaaDoor

/- Layer 13: what its functions compute, as plain functions of lists of bytes; the request line of layer 12. No program. No conditions. -/
namespace Go.Proofs.YtmfnciocnlmceaaDoor
open Go.RowKit Go.Shelf

/-- a status' words -/
def reasonM (s : Int) : List UInt8 :=
  if s = 200 then [79, 75] else
  if s = 206 then [80, 97, 114, 116, 105, 97, 108, 32, 67, 111, 110, 116, 101, 110, 116] else
  if s = 304 then [78, 111, 116, 32, 77, 111, 100, 105, 102, 105, 101, 100] else
  if s = 400 then [66, 97, 100, 32, 82, 101, 113, 117, 101, 115, 116] else
  if s = 404 then [78, 111, 116, 32, 70, 111, 117, 110, 100] else
  if s = 405 then [77, 101, 116, 104, 111, 100, 32, 78, 111, 116, 32, 65, 108, 108, 111, 119, 101, 100] else
  if s = 406 then [78, 111, 116, 32, 65, 99, 99, 101, 112, 116, 97, 98, 108, 101] else
  if s = 413 then [67, 111, 110, 116, 101, 110, 116, 32, 84, 111, 111, 32, 76, 97, 114, 103, 101] else
  if s = 416 then [82, 97, 110, 103, 101, 32, 78, 111, 116, 32, 83, 97, 116, 105, 115, 102, 105, 97, 98, 108, 101] else
  if s = 431 then [82, 101, 113, 117, 101, 115, 116, 32, 72, 101, 97, 100, 101, 114, 32, 70, 105, 101, 108, 100, 115, 32, 84, 111, 111, 32, 76, 97, 114, 103, 101] else
  if s = 502 then [66, 97, 100, 32, 71, 97, 116, 101, 119, 97, 121] else
  if s = 503 then [83, 101, 114, 118, 105, 99, 101, 32, 85, 110, 97, 118, 97, 105, 108, 97, 98, 108, 101] else
  if s = 504 then [71, 97, 116, 101, 119, 97, 121, 32, 84, 105, 109, 101, 111, 117, 116] else
  if s = 505 then [72, 84, 84, 80, 32, 86, 101, 114, 115, 105, 111, 110, 32, 78, 111, 116, 32, 83, 117, 112, 112, 111, 114, 116, 101, 100] else
  [85, 110, 107, 110, 111, 119, 110]
def crlfB : List UInt8 := [13, 10]
/-- 'HTTP/1.1' -/
def protB : List UInt8 := [72, 84, 84, 80, 47, 49, 46, 49]
def laidOk (L : List Fld) : Bool := decide (L.length ≤ 32) && L.all goodF
def laidE (st : List UInt8) (L : List Fld) : Int := if laidOk L then (if (headT st L).length ≤ 4096 then 0 else 4) else 1
def laidS (st : List UInt8) (L : List Fld) : List UInt8 := if laidE st L = 0 then headT st L else []
def stOf (s : Int) : List UInt8 := protB ++ [32] ++ Lib.itoa s ++ [32] ++ reasonM s
def statOk (s : Int) : Bool := decide (100 ≤ s) && decide (s ≤ 599)
def ansE (s : Int) (L : List Fld) : Int := if statOk s then laidE (stOf s) L else 1
def ansS (s : Int) (L : List Fld) : List UInt8 := if statOk s then laidS (stOf s) L else []
/-- a byte of a target -/
def tgtB (b : UInt8) : Bool := decide (33 ≤ b.toNat) && decide (b.toNat ≤ 126)
def isTgt (l : List UInt8) : Bool := l.all tgtB && !l.isEmpty
/-- 'HTTP/' -/
def httpB : List UInt8 := [72, 84, 84, 80, 47]
def digB (b : UInt8) : Bool := decide (48 ≤ b.toNat) && decide (b.toNat ≤ 57)
def verOk (l : List UInt8) : Bool := decide (l.length = 8) && decide (l.take 5 = httpB) && digB (l.getD 5 0) && (l.getD 6 0 == 46) && digB (l.getD 7 0)
def minS (l : List UInt8) : Int := if verOk l then (if l.getD 5 0 = 49 ∧ (l.getD 7 0).toNat ≤ 49 then 200 else 505) else 400
def minV (l : List UInt8) : Int := if minS l = 200 then ((l.getD 7 0).toNat : Int) - 48 else 0
structure Ln where
  m : List UInt8
  t : List UInt8
  v : Int
  s : Int
/-- a request line -/
def lnM (l : List UInt8) : Ln :=
  let c := Lib.cut l [32]
  let d := Lib.cut c.2.1 [32]
  if c.2.2 && d.2.2 && isTok c.1 && isTgt d.1 then (if minS d.2.1 = 200 then ⟨c.1, d.1, minV d.2.1, 200⟩ else ⟨[], [], 0, minS d.2.1⟩) else ⟨[], [], 0, 400⟩
def askT (m t : List UInt8) : List UInt8 := m ++ [32] ++ t ++ [32] ++ protB
def askOk (m t : List UInt8) : Bool := decide ((lnM (askT m t)).s = 200) && decide ((askT m t).length ≤ 1024)
def askE (m t : List UInt8) (L : List Fld) : Int := if askOk m t then laidE (askT m t) L else 1
def askS (m t : List UInt8) (L : List Fld) : List UInt8 := if askOk m t then laidS (askT m t) L else []
theorem len_ite {c : Prop} [Decidable c] {a b : List UInt8} {n : Nat} (ha : a.length ≤ n) (hb : b.length ≤ n) : (if c then a else b).length ≤ n := by split <;> assumption
theorem reason_len (s : Int) : (reasonM s).length ≤ 40 := by
  unfold reasonM
  repeat (refine len_ite (by decide) ?_)
  decide
theorem stOf_len (s : Int) (h : in64 s) : (stOf s).length ≤ 100 := by
  have h1 := reason_len s
  have h2 := itoa_len s h
  unfold stOf
  simp [protB]
  omega
end Go.Proofs.YtmfnciocnlmceaaDoor

/- Layer 10: the document's Params. No conditions but on lengths. -/
namespace Go.Proofs.YtmfnciocnlmceaaDoor
open Go.RowKit Go.Shelf

theorem parM_eq (x : List UInt8) : parM x = if 0 ≤ Lib.indexByte x 61 ∧ isTok (x.take (Lib.indexByte x 61).toNat) = true then
    (⟨lowW (x.take (Lib.indexByte x 61).toNat), (unqW (x.drop ((Lib.indexByte x 61).toNat + 1))).1⟩, (unqW (x.drop ((Lib.indexByte x 61).toNat + 1))).2) else (⟨[], []⟩, false) := by
  unfold parM Lib.cut
  rw [Lib.index_one]
  by_cases h : 0 ≤ Lib.indexByte x 61
  · simp only [if_pos h, List.length_singleton]
    by_cases h1 : isTok (x.take (Lib.indexByte x 61).toNat) = true
    · simp [h, h1]
    · simp [h1]
  · simp only [if_neg h]
    simp [h]

end Go.Proofs.YtmfnciocnlmceaaDoor

/- Layer 10: Frame. No conditions but on lengths. -/
namespace Go.Proofs.YtmfnciocnlmceaaDoor
open Go.RowKit Go.Shelf

def nTE : List UInt8 := [84, 114, 97, 110, 115, 102, 101, 114, 45, 69, 110, 99, 111, 100, 105, 110, 103]
def nCL : List UInt8 := [67, 111, 110, 116, 101, 110, 116, 45, 76, 101, 110, 103, 116, 104]
def nChunked : List UInt8 := [99, 104, 117, 110, 107, 101, 100]
/-- how a body is framed: its length, whether in chunks, the error -/
structure Frm where
  n : Int
  ch : Bool
  e : Int
def frameM (L : List Fld) (most : Int) : Frm :=
  if 1 < getN L nTE ∨ 1 < getN L nCL ∨ 1 < getN L nTE + getN L nCL then ⟨0, false, 3⟩
  else if getN L nTE = 1 then (if lowW (getV L nTE) = nChunked then ⟨0, true, 0⟩ else ⟨0, false, 3⟩)
  else if getN L nCL = 0 then ⟨-1, false, 0⟩
  else ⟨undecV (getV L nCL) most, false, if undecE (getV L nCL) most = 14 then 4 else undecE (getV L nCL) most⟩
theorem frm_ret {a c : Int} {b d : Bool} {x y : Int} (h : a = c) (h2 : b = d) (h3 : x = y) : Ending.returned (.tuple #[.int .i64 a, .bool b, .int .i64 x]) = .returned (.tuple #[.int .i64 c, .bool d, .int .i64 y]) := by rw [h, h2, h3]
theorem getV_len {L : List Fld} {n : List UInt8} {m : Nat} (h : ∀ x ∈ L, x.value.length ≤ m) : (getV L n).length ≤ m := by
  unfold getV
  cases hg : getS L n with
  | nil => simp
  | cons f r =>
    have : f ∈ getS L n := by rw [hg]; simp
    exact h f (List.mem_filter.1 this).1

set_option maxRecDepth 100000 in
set_option maxHeartbeats 1000000 in
theorem field_Frame (va : Value) (L : List Fld) (most : Int) (w : World) (ha : Sl Fld.cells 2 w va L) (hg : ∀ x ∈ L, x.name.length ≤ maxLen) (hv : ∀ x ∈ L, x.value.length ≤ maxLen) (_ : L.length ≤ 4611686018427387904) :
    Calls Tryd.prog 95 #[va, .int .i64 most] w fun e w' => e = .returned (.tuple #[.int .i64 (frameM L most).n, .bool (frameM L most).ch, .int .i64 (frameM L most).e]) ∧ Keep [] w w' := by
  have HG1 := Lib.hid (field_Get va L nTE w ha hg (by decide))
  have HG2 := Lib.hid (fun w1 (k : Keep [] w w1) => field_Get va L nCL w1 (ha.keep Fld.cells_length (by omega) ha k (by simp) (Nat.le_refl _)) hg (by decide))
  have hL := fun w1 => field_low (getV L nTE) w1 (getV_len hv)
  have hU := fun w1 => hexa_Undec (getV L nCL) most w1 (getV_len hv)
  have hF : frameM L most = if 1 < getN L nTE ∨ 1 < getN L nCL ∨ 1 < getN L nTE + getN L nCL then ⟨0, false, 3⟩
    else if getN L nTE = 1 then (if lowW (getV L nTE) = nChunked then ⟨0, true, 0⟩ else ⟨0, false, 3⟩)
    else if getN L nCL = 0 then ⟨-1, false, 0⟩
    else ⟨undecV (getV L nCL) most, false, if undecE (getV L nCL) most = 14 then 4 else undecE (getV L nCL) most⟩ := rfl
  have b1 := getN_le L nTE
  have b2 := getN_le L nCL
  unfold GetOut at HG1 HG2
  generalize frameM L most = f at hF
  generalize getV L nTE = tv at hL hF HG1
  generalize getV L nCL = cv at hU hF HG2
  generalize getN L nTE = tn at hF b1 HG1
  generalize getN L nCL = cn at hF b2 HG2
  obtain ⟨fn, fc, fe⟩ := f
  dsimp only
  clear ha hg hv
  by_cases h1 : 1 < tn ∨ 1 < cn ∨ 1 < tn + cn
  · rw [if_pos h1] at hF
    have HF := Lib.hid hF
    clear hF hL hU
    by_cases t1 : 1 < tn
    · clear h1
      go_enter Tryd.func95, Tryd.ntmps95
      go_wp2_with fail
      refine HG1.out.mono ?_
      rintro e w1 ⟨rfl, hk1⟩
      have K1 := Lib.hid hk1
      clear hk1
      go_wp2_with fail
      refine (HG2.out _ K1.out).mono ?_
      rintro e w2 ⟨rfl, hk2⟩
      have K2 := Lib.hid (K1.out.trans hk2)
      clear hk2
      go_wp2_with fail
      go_ret3
      exact ⟨frm_ret (by cases HF.out; rfl) (by cases HF.out; rfl) (by cases HF.out; rfl), K2.out⟩
    · by_cases t2 : 1 < cn
      · clear h1
        go_enter Tryd.func95, Tryd.ntmps95
        go_wp2_with fail
        refine HG1.out.mono ?_
        rintro e w1 ⟨rfl, hk1⟩
        have K1 := Lib.hid hk1
        clear hk1
        go_wp2_with fail
        refine (HG2.out _ K1.out).mono ?_
        rintro e w2 ⟨rfl, hk2⟩
        have K2 := Lib.hid (K1.out.trans hk2)
        clear hk2
        go_wp2_with fail
        go_ret3
        exact ⟨frm_ret (by cases HF.out; rfl) (by cases HF.out; rfl) (by cases HF.out; rfl), K2.out⟩
      · have t3 : 1 < tn + cn := by omega
        clear h1
        go_enter Tryd.func95, Tryd.ntmps95
        go_wp2_with fail
        refine HG1.out.mono ?_
        rintro e w1 ⟨rfl, hk1⟩
        have K1 := Lib.hid hk1
        clear hk1
        go_wp2_with fail
        refine (HG2.out _ K1.out).mono ?_
        rintro e w2 ⟨rfl, hk2⟩
        have K2 := Lib.hid (K1.out.trans hk2)
        clear hk2
        go_wp2_with fail
        go_ret3
        exact ⟨frm_ret (by cases HF.out; rfl) (by cases HF.out; rfl) (by cases HF.out; rfl), K2.out⟩
  · rw [if_neg h1] at hF
    have t1 : tn ≤ 1 := by omega
    have t2 : cn ≤ 1 := by omega
    have t3 : tn + cn ≤ 1 := by omega
    clear h1
    by_cases t4 : tn = 1
    · rw [if_pos t4] at hF
      obtain ⟨q1, q2⟩ := int_eq (show ((tn : Nat) : Int) = 1 by omega)
      have q5 := S_toList (lowW tv)
      by_cases hc : lowW tv = nChunked
      · rw [if_pos hc] at hF
        have q3 : (lowW tv == [99, 104, 117, 110, 107, 101, 100]) = true := by rw [hc]; rfl
        have q4 : (lowW tv != [99, 104, 117, 110, 107, 101, 100]) = false := by rw [hc]; rfl
        have HF := Lib.hid hF
        have HL := Lib.hid hL
        clear hF hL hU t4 hc
        go_enter Tryd.func95, Tryd.ntmps95
        go_wp2_with fail
        refine HG1.out.mono ?_
        rintro e w1 ⟨rfl, hk1⟩
        have K1 := Lib.hid hk1
        clear hk1
        go_wp2_with fail
        refine (HG2.out _ K1.out).mono ?_
        rintro e w2 ⟨rfl, hk2⟩
        have K2 := Lib.hid (K1.out.trans hk2)
        clear hk2
        go_wp2_with fail
        refine (HL.out _).mono ?_
        rintro e w3 ⟨rfl, hk3⟩
        have K3 := Lib.hid (K2.out.trans hk3)
        clear hk3
        go_wp2_with fail
        go_ret3
        exact ⟨frm_ret (by cases HF.out; rfl) (by cases HF.out; rfl) (by cases HF.out; rfl), K3.out⟩
      · rw [if_neg hc] at hF
        have q3 : (lowW tv == [99, 104, 117, 110, 107, 101, 100]) = false := beq_eq_false_iff_ne.2 hc
        have q4 : (lowW tv != [99, 104, 117, 110, 107, 101, 100]) = true := bne_iff_ne.2 hc
        have HF := Lib.hid hF
        have HL := Lib.hid hL
        clear hF hL hU t4 hc
        go_enter Tryd.func95, Tryd.ntmps95
        go_wp2_with fail
        refine HG1.out.mono ?_
        rintro e w1 ⟨rfl, hk1⟩
        have K1 := Lib.hid hk1
        clear hk1
        go_wp2_with fail
        refine (HG2.out _ K1.out).mono ?_
        rintro e w2 ⟨rfl, hk2⟩
        have K2 := Lib.hid (K1.out.trans hk2)
        clear hk2
        go_wp2_with fail
        refine (HL.out _).mono ?_
        rintro e w3 ⟨rfl, hk3⟩
        have K3 := Lib.hid (K2.out.trans hk3)
        clear hk3
        go_wp2_with fail
        go_ret3
        exact ⟨frm_ret (by cases HF.out; rfl) (by cases HF.out; rfl) (by cases HF.out; rfl), K3.out⟩
    · rw [if_neg t4] at hF
      obtain ⟨q1, q2⟩ := int_ne (show ((tn : Nat) : Int) ≠ 1 by omega)
      by_cases t5 : cn = 0
      · rw [if_pos t5] at hF
        obtain ⟨q3, q4⟩ := int_eq (show ((cn : Nat) : Int) = 0 by omega)
        have HF := Lib.hid hF
        clear hF hL hU t4 t5
        go_enter Tryd.func95, Tryd.ntmps95
        go_wp2_with fail
        refine HG1.out.mono ?_
        rintro e w1 ⟨rfl, hk1⟩
        have K1 := Lib.hid hk1
        clear hk1
        go_wp2_with fail
        refine (HG2.out _ K1.out).mono ?_
        rintro e w2 ⟨rfl, hk2⟩
        have K2 := Lib.hid (K1.out.trans hk2)
        clear hk2
        go_wp2_with fail
        go_ret3
        exact ⟨frm_ret (by cases HF.out; rfl) (by cases HF.out; rfl) (by cases HF.out; rfl), K2.out⟩
      · rw [if_neg t5] at hF
        obtain ⟨q3, q4⟩ := int_ne (show ((cn : Nat) : Int) ≠ 0 by omega)
        generalize undecV cv most = uv at hF hU
        generalize undecE cv most = ue at hF hU
        have HU := Lib.hid hU
        by_cases h14 : ue = 14
        · rw [if_pos h14] at hF
          obtain ⟨q5, q6⟩ := int_eq h14
          have HF := Lib.hid hF
          clear hF hL hU t4 t5 h14
          go_enter Tryd.func95, Tryd.ntmps95
          go_wp2_with fail
          refine HG1.out.mono ?_
          rintro e w1 ⟨rfl, hk1⟩
          have K1 := Lib.hid hk1
          clear hk1
          go_wp2_with fail
          refine (HG2.out _ K1.out).mono ?_
          rintro e w2 ⟨rfl, hk2⟩
          have K2 := Lib.hid (K1.out.trans hk2)
          clear hk2
          go_wp2_with fail
          refine (HU.out _).mono ?_
          rintro e w3 ⟨rfl, hk3⟩
          have K3 := Lib.hid (K2.out.trans hk3)
          clear hk3
          go_wp2_with fail
          go_ret3
          exact ⟨frm_ret (by cases HF.out; rfl) (by cases HF.out; rfl) (by cases HF.out; rfl), K3.out⟩
        · rw [if_neg h14] at hF
          obtain ⟨q5, q6⟩ := int_ne h14
          have HF := Lib.hid hF
          clear hF hL hU t4 t5 h14
          go_enter Tryd.func95, Tryd.ntmps95
          go_wp2_with fail
          refine HG1.out.mono ?_
          rintro e w1 ⟨rfl, hk1⟩
          have K1 := Lib.hid hk1
          clear hk1
          go_wp2_with fail
          refine (HG2.out _ K1.out).mono ?_
          rintro e w2 ⟨rfl, hk2⟩
          have K2 := Lib.hid (K1.out.trans hk2)
          clear hk2
          go_wp2_with fail
          refine (HU.out _).mono ?_
          rintro e w3 ⟨rfl, hk3⟩
          have K3 := Lib.hid (K2.out.trans hk3)
          clear hk3
          go_wp2_with fail
          go_ret3
          exact ⟨frm_ret (by cases HF.out; rfl) (by cases HF.out; rfl) (by cases HF.out; rfl), K3.out⟩

theorem frame_cases (L : List Fld) (most : Int) :
    ((1 < getN L nTE ∨ 1 < getN L nCL ∨ 1 < getN L nTE + getN L nCL) ∧ frameM L most = ⟨0, false, 3⟩) ∨ (getN L nTE = 1 ∧ getN L nCL = 0 ∧ frameM L most = ⟨0, true, 0⟩) ∨
    (((getN L nTE = 1 ∧ getN L nCL = 0) ∨ (getN L nTE = 0 ∧ getN L nCL = 1)) ∧ ∃ x, x ≠ 0 ∧ frameM L most = ⟨0, false, x⟩) ∨ (getN L nTE = 0 ∧ getN L nCL = 0 ∧ frameM L most = ⟨-1, false, 0⟩) ∨
    (getN L nTE = 0 ∧ getN L nCL = 1 ∧ ∃ v, 0 ≤ v ∧ v ≤ most ∧ frameM L most = ⟨v, false, 0⟩) := by
  have h := undec_range (getV L nCL) most
  unfold frameM
  by_cases h1 : 1 < getN L nTE ∨ 1 < getN L nCL ∨ 1 < getN L nTE + getN L nCL
  · exact .inl ⟨h1, if_pos h1⟩
  · rw [if_neg h1]
    by_cases t4 : getN L nTE = 1
    · rw [if_pos t4]
      by_cases hc : lowW (getV L nTE) = nChunked
      · rw [if_pos hc]; exact .inr (.inl ⟨t4, by omega, rfl⟩)
      · rw [if_neg hc]; exact .inr (.inr (.inl ⟨.inl ⟨t4, by omega⟩, 3, by omega, rfl⟩))
    · rw [if_neg t4]
      by_cases t5 : getN L nCL = 0
      · rw [if_pos t5]; exact .inr (.inr (.inr (.inl ⟨by omega, t5, rfl⟩)))
      · rw [if_neg t5]
        by_cases he : undecE (getV L nCL) most = 0
        · rw [if_neg (by omega), he]
          exact .inr (.inr (.inr (.inr ⟨by omega, by omega, _, (h.1 he).1, (h.1 he).2, rfl⟩)))
        · obtain ⟨h2, h3⟩ := h.2 he
          rw [h2]
          refine .inr (.inr (.inl ⟨.inr ⟨by omega, by omega⟩, _, ?_, rfl⟩))
          split <;> omega
end Go.Proofs.YtmfnciocnlmceaaDoor

/- Layer 10: Closes, both sides; the document's Undec and Frame. No conditions but on lengths. -/
namespace Go.Proofs.YtmfnciocnlmceaaDoor
open Go.RowKit Go.Shelf

def nConn : List UInt8 := [67, 111, 110, 110, 101, 99, 116, 105, 111, 110]
def nClose : List UInt8 := [99, 108, 111, 115, 101]
def nKeep : List UInt8 := [107, 101, 101, 112, 45, 97, 108, 105, 118, 101]
def closeL : List (List UInt8) → Bool → Bool
  | [], k => !k
  | x :: r, k => if lowW x = nClose then true else closeL r (k || decide (lowW x = nKeep))
def closesM (L : List Fld) (minor : Int) : Bool := closeL (elsM L nConn) (decide (1 ≤ minor))
theorem els_congr {n m : List UInt8} (L : List Fld) (h : lowW n = lowW m) : elsM L n = elsM L m := by
  have : sameN n = sameN m := by funext f; unfold sameN; rw [h]
  unfold elsM getS
  rw [this]
theorem els_elem {L : List Fld} {n x : List UInt8} {m : Nat} (hg : ∀ f ∈ L, f.value.length ≤ m) (h : x ∈ elsM L n) : x.length ≤ m := by
  unfold elsM at h
  obtain ⟨f, hf, hx⟩ := List.mem_flatMap.1 h
  have h1 := (List.mem_filter.1 hf).1
  have h2 := (List.mem_filter.1 hx).1
  exact Nat.le_trans (cutW_elem h2) (hg f h1)

set_option maxRecDepth 100000 in
set_option maxHeartbeats 1000000 in
theorem field_Closes (va : Value) (L : List Fld) (minor : Int) (w : World) (ha : Sl Fld.cells 2 w va L) (hg : ∀ x ∈ L, x.name.length ≤ 1048576 ∧ x.value.length ≤ 1048576) (hl : L.length ≤ 1024) :
    Calls Tryd.prog 96 #[va, .int .i64 minor] w fun e w' => e = .returned (.bool (closesM L minor)) ∧ Keep [] w w' := by
  have hE := field_Elements va L nConn w ha hg (by decide) hl
  have hC : closesM L minor = closeL (elsM L nConn) (decide (1 ≤ minor)) := rfl
  have hel : ∀ x ∈ elsM L nConn, x.length ≤ 1048576 := fun x hx => els_elem (fun f hf => (hg f hf).2) hx
  generalize elsM L nConn = M at hE hC hel
  generalize closesM L minor = res at hC
  have HE := Lib.hid hE
  have HC := Lib.hid hC
  have HEL := Lib.hid hel
  have HLW := Lib.hid (fun (x : List UInt8) (h : x.length ≤ 1048576) (w1 : World) => field_low x w1 (show x.length ≤ 9223372036854775807 by omega))
  clear hE hC hel ha hg
  generalize hdec : decide (1 ≤ minor) = kp0 at HC
  have hmin : (decide ((1 : Int) ≤ minor)) = kp0 := hdec
  go_enter Tryd.func96, Tryd.ntmps96
  go_wp2_with fail
  refine HE.out.mono ?_
  rintro e w1 ⟨pv, rfl, ho1, hk1⟩
  obtain ⟨pa, pc, rfl, hml⟩ := ho1.shape
  have hml' : M.length ≤ 9223372036854775807 := hml
  have HO := Lib.hid ho1
  have K1 := Lib.hid hk1
  clear ho1 hk1 hml hdec
  go_wp2_with fail
  clear hmin
  go_loopg [5, 13] M.length (fun g kv j wr => ∃ (k : Nat) (b : Bool), j = .int .i64 k ∧ kv = .bool b ∧ k ≤ M.length ∧ g = M.length - k ∧ Hid (Own strC 1 w.heap.size 9 wr (.slice pa M.length pc) M) ∧ Hid (Keep [] w wr) ∧ Hid (res = closeL (M.drop k) b))
  case atStart => exact ⟨0, _, rfl, rfl, by omega, by omega, HO, K1, HC⟩
  case round =>
    obtain ⟨k, b, rfl, rfl, hk, rfl, HO, HK, HF⟩ := hrel
    by_cases hlt : k < M.length
    · obtain ⟨x, hx⟩ : ∃ x, M[k]? = some x := ⟨_, List.getElem?_eq_getElem hlt⟩
      have HL := Lib.hid (HLW.out x (HEL.out x (List.mem_of_getElem? hx)))
      obtain ⟨b1, o1, c1, hv1, _, hc1, hx1⟩ := (HO.out.sl strC_length).cell hx
      cases hv1
      have hc1' : pc ≤ 9223372036854775807 := hc1
      have e0 := hx1 0 (by omega)
      simp only [strC, List.getElem?_cons_zero, Nat.mul_one, Nat.add_zero] at e0
      have hF := HF.out
      rw [drop_atG hx, closeL] at hF
      have ht := S_toList (lowW x)
      clear hx1 hx HF hc1
      by_cases h1 : lowW x = nClose
      · rw [if_pos h1] at hF
        have q1 : (lowW x == [99, 108, 111, 115, 101]) = true := by rw [h1]; rfl
        have HF := Lib.hid hF
        clear hF h1
        go_wp2_with fail
        refine (HL.out _).mono ?_
        rintro e w2 ⟨rfl, hk2⟩
        have K2 := Lib.hid (HK.out.trans hk2)
        clear hk2
        go_wp2_with fail
        go_ret
        exact ⟨ret_bool HF.out.symm, K2.out⟩
      · rw [if_neg h1] at hF
        have q1 : (lowW x == [99, 108, 111, 115, 101]) = false := beq_eq_false_iff_ne.2 h1
        by_cases h2 : lowW x = nKeep
        · have q2 : (lowW x == [107, 101, 101, 112, 45, 97, 108, 105, 118, 101]) = true := by rw [h2]; rfl
          have HF : Hid (res = closeL (M.drop (k + 1)) true) := by rw [Hid, hF]; simp [h2]
          clear hF h1 h2
          go_wp2_with fail
          refine (HL.out _).mono ?_
          rintro e w2 ⟨rfl, hk2⟩
          have K2 := Lib.hid (HK.out.trans hk2)
          have O2 := Lib.hid (HO.out.keep0 hk2)
          clear hk2
          go_wp2_with fail
          go_roundg (M.length - (k + 1))
          case measure => omega
          case rel => exact ⟨k + 1, true, by go_num, rfl, by omega, rfl, O2, K2, HF⟩
        · have q2 : (lowW x == [107, 101, 101, 112, 45, 97, 108, 105, 118, 101]) = false := beq_eq_false_iff_ne.2 h2
          have HF : Hid (res = closeL (M.drop (k + 1)) b) := by rw [Hid, hF]; simp [h2]
          clear hF h1 h2
          go_wp2_with fail
          refine (HL.out _).mono ?_
          rintro e w2 ⟨rfl, hk2⟩
          have K2 := Lib.hid (HK.out.trans hk2)
          have O2 := Lib.hid (HO.out.keep0 hk2)
          clear hk2
          go_wp2_with fail
          go_roundg (M.length - (k + 1))
          case measure => omega
          case rel => exact ⟨k + 1, b, by go_num, rfl, by omega, rfl, O2, K2, HF⟩
    · have hF := HF.out
      rw [List.drop_eq_nil_of_le (by omega), closeL] at hF
      have HF2 := Lib.hid hF
      clear hF HF
      go_wp2_with fail
      go_ret
      exact ⟨ret_bool HF2.out.symm, HK.out⟩

end Go.Proofs.YtmfnciocnlmceaaDoor

/- Layer 12: what an inlet does, as a plain machine. No program. No conditions but those that each theorem states. -/
namespace Go.Proofs.YtmfnciocnlmceaaDoor
open Go.RowKit

structure Req where
  m : List UInt8
  t : List UInt8
  F : List Fld
  cl : Bool
def req0 : Req := ⟨[], [], [], false⟩
def toldE (e long : Int) : Int := if e = 0 ∨ e = 17 then 0 else if e = 4 then long else 400
def nHost : List UInt8 := [72, 111, 115, 116]
/-- what a head comes to: what is wrong, whether one has come, its length, its request, what its body is -/
structure Hr where
  s : Int
  got : Bool
  n : Nat
  q : Req
  skip : Nat
  ch : Bool
def hr0 (s : Int) : Hr := ⟨s, false, 0, req0, 0, false⟩
def headM (l : List UInt8) : Hr :=
  if (splitM l).e ≠ 0 then hr0 (toldE (splitM l).e 431)
  else if (lnM (splitM l).st).s ≠ 200 then hr0 (lnM (splitM l).st).s
  else if 1 < getN (splitM l).F nHost ∨ (getN (splitM l).F nHost : Int) < (lnM (splitM l).st).v then hr0 400
  else if (frameM (splitM l).F 4096).e ≠ 0 then hr0 (toldE (frameM (splitM l).F 4096).e 413)
  else ⟨0, true, (splitM l).n, ⟨(lnM (splitM l).st).m, (lnM (splitM l).st).t, (splitM l).F, closesM (splitM l).F (lnM (splitM l).st).v⟩, (max (frameM (splitM l).F 4096).n 0).toNat, (frameM (splitM l).F 4096).ch⟩
/-- an inlet: what has come and wasn't read, the bytes of the request that is read, the request, what is left of its body, what was wrong -/
structure InS where
  inp : List UInt8
  held : Nat
  req : Option Req
  skip : Nat
  chk : Option Ck
  st : Int
def in0 : InS := ⟨[], 0, none, 0, none, 0⟩
def InS.left (p : InS) : Nat := p.inp.length + p.held
def inAdd (p : InS) (s : List UInt8) : InS × Int :=
  if p.st ≠ 0 then (p, 8) else if (16384 : Int) - p.left < s.length then (p, 6) else ({ p with inp := p.inp ++ s }, 0)
structure BdR where
  p : InS
  whole : Bool
  s : Int
def bodyB (p : InS) : BdR :=
  match p.chk with
  | none => ⟨{ p with inp := p.inp.drop (min p.skip p.inp.length), held := p.held + min p.skip p.inp.length, skip := p.skip - min p.skip p.inp.length }, decide (p.skip - min p.skip p.inp.length = 0), 0⟩
  | some c =>
    if (addC c p.inp).err ≠ 0 then ⟨{ p with inp := [], held := p.held + p.inp.length, chk := some (addC c p.inp) }, false, toldE (addC c p.inp).err 413⟩
    else if (addC c p.inp).st ≠ 4 then ⟨{ p with inp := [], held := p.held + p.inp.length, chk := some (addC c p.inp) }, false, 0⟩
    else ⟨{ p with inp := (addC c p.inp).inp, held := p.held + p.inp.length, chk := none }, true, 0⟩
/-- what Next comes to: the inlet, the request, the status -/
structure NxR where
  p : InS
  q : Req
  s : Int
def tailI (p : InS) (q : Req) : NxR :=
  if (bodyB p).s ≠ 0 then ⟨{ (bodyB p).p with st := (bodyB p).s }, req0, (bodyB p).s⟩
  else if (bodyB p).whole then ⟨{ (bodyB p).p with req := none, held := 0 }, q, 200⟩
  else ⟨(bodyB p).p, req0, 0⟩
def headed (p : InS) (h : Hr) : InS := { p with inp := p.inp.drop h.n, held := h.n, skip := h.skip, chk := if h.ch then some (ck0 4096) else p.chk, req := some h.q }
def nextI (p : InS) : NxR :=
  if p.st ≠ 0 then ⟨p, req0, p.st⟩
  else match p.req with
    | some q => tailI p q
    | none =>
      if (headM p.inp).s ≠ 0 then ⟨{ p with st := (headM p.inp).s }, req0, (headM p.inp).s⟩
      else if (headM p.inp).got then tailI (headed p (headM p.inp)) (headM p.inp).q
      else ⟨p, req0, 0⟩
/-- what holds of an inlet at any time -/
structure InS.ok (p : InS) : Prop where
  len : p.inp.length + p.held ≤ 16384
  skp : p.skip ≤ 4096
  chk : ∀ c, p.chk = some c → (c.err = 0 → c.ok) ∧ c.most = 4096 ∧ c.inp.length + c.dat.length + 2 ≤ p.held ∧ c.st ≤ 4
  req : p.st = 0 → p.req = none → p.chk = none ∧ p.held = 0
  bad : ∀ c, p.st = 0 → p.chk = some c → c.err = 0
  hld : p.st = 0 → p.req ≠ none → 2 ≤ p.held
end Go.Proofs.YtmfnciocnlmceaaDoor

/- Layer 12: an inlet in memory; New, Left, wrong, Add, told. No conditions but on lengths. -/
namespace Go.Proofs.YtmfnciocnlmceaaDoor
open Go.RowKit Go.Shelf

def reqC (m t : List UInt8) (v : Value) (cl : Bool) : List Value := [.string (S m), .string (S t), v, .bool cl]
def inC (I : InS) (rv cv : Value) : List Value := [.string (S I.inp), .int .i64 (I.held : Nat), rv, .int .i64 (I.skip : Nat), cv, .int .i64 I.st]
/-- a request in memory: its block and its fields' row lie in R -/
def ReqAt (B : Nat) (w : World) (R : List Nat) (rv : Value) (o : Option Req) : Prop :=
  match o with
  | none => rv = .pointer none
  | some q => ∃ b v, rv = .pointer (some ⟨b, 0, none⟩) ∧ b ∈ R ∧ Blk w b 65 (reqC q.m q.t v q.cl) ∧ Own Fld.cells 2 B 26 w v q.F ∧ ∀ g, v.ownBlock = some g → g ∈ R
/-- a chunked body's reader in memory: its blocks lie in X -/
def ChkAt (B : Nat) (w : World) (p : Nat) (X : List Nat) (cv : Value) (o : Option Ck) : Prop :=
  match o with
  | none => cv = .pointer none
  | some c => ∃ b v, cv = .pointer (some ⟨b, 0, none⟩) ∧ b ≠ p ∧ b ∈ X ∧ Ct B w b [] c v ∧ ∀ g, v.ownBlock = some g → g ∈ X ∧ g ≠ p
/-- an inlet in memory: X: what its calls write; R: what is only read -/
structure It (B : Nat) (w : World) (p : Nat) (X R : List Nat) (I : InS) : Prop where
  at' : ∃ rv cv, Blk w p 100 (inC I rv cv) ∧ ChkAt B w p X cv I.chk ∧ ReqAt B w R rv I.req
  mem : p ∈ X
  lo : ∀ x ∈ X, B ≤ x ∧ x < w.heap.size
  ro : ∀ x ∈ R, B ≤ x ∧ x < w.heap.size ∧ x ∉ X
theorem Ct.lt {B b : Nat} {w : World} {p : List UInt8} {c : Ck} {v : Value} (h : Ct B w b p c v) : b < w.heap.size := let ⟨_, h1⟩ := h.cells; h1.lt
theorem ReqAt.keep {B : Nat} {w w' : World} {R S : List Nat} {rv : Value} {o : Option Req} (h : ReqAt B w R rv o) (k : Keep S w w') (hR : ∀ x ∈ R, x ∉ S) : ReqAt B w' R rv o := by
  cases o with
  | none => exact h
  | some q =>
    obtain ⟨b, v, h1, h2, h3, h4, h5⟩ := h
    exact ⟨b, v, h1, h2, k.blk h3 (hR b h2), h4.keep k (fun g hg => hR g (h5 g hg)), h5⟩
theorem ChkAt.keep {B p : Nat} {w w' : World} {X S : List Nat} {cv : Value} {o : Option Ck} (h : ChkAt B w p X cv o) (k : Keep S w w') (hX : ∀ x ∈ X, x ≠ p → x ∉ S) : ChkAt B w' p X cv o := by
  cases o with
  | none => exact h
  | some c =>
    obtain ⟨b, v, h1, h2, h3, h4, h5⟩ := h
    exact ⟨b, v, h1, h2, h3, h4.keep k (hX b h3 h2) (fun g hg => hX g (h5 g hg).1 (h5 g hg).2), h5⟩
theorem It.keep {B p : Nat} {w w' : World} {X R S : List Nat} {I : InS} (h : It B w p X R I) (k : Keep S w w') (hX : ∀ x ∈ X, x ∉ S) (hR : ∀ x ∈ R, x ∉ S) : It B w' p X R I := by
  obtain ⟨⟨rv, cv, h1, h2, h3⟩, h4, h5, h6⟩ := h
  exact ⟨⟨rv, cv, k.blk h1 (hX p h4), h2.keep k (fun x hx _ => hX x hx), h3.keep k hR⟩, h4, fun x hx => ⟨(h5 x hx).1, Nat.lt_of_lt_of_le (h5 x hx).2 k.size⟩, fun x hx => ⟨(h6 x hx).1, Nat.lt_of_lt_of_le (h6 x hx).2.1 k.size, (h6 x hx).2.2⟩⟩
theorem It.keep0 {B p : Nat} {w w' : World} {X R : List Nat} {I : InS} (h : It B w p X R I) (k : Keep [] w w') : It B w' p X R I := h.keep k (by simp) (by simp)
theorem It.lt {B p : Nat} {w : World} {X R : List Nat} {I : InS} (h : It B w p X R I) : p < w.heap.size := (h.lo p h.mem).2
theorem It.base {B p : Nat} {w : World} {X R : List Nat} {I : InS} (h : It B w p X R I) : B ≤ p := (h.lo p h.mem).1
/-- a store into the inlet's own block -/
theorem It.set {B p : Nat} {w : World} {X R : List Nat} {I I' : InS} (h : It B w p X R I) (k : Nat) (x : Value) (hc : ∀ rv cv, (inC I rv cv).set k x = inC I' rv cv) (h1 : I'.req = I.req) (h2 : I'.chk = I.chk) : It B (w.setCell ⟨p, k, none⟩ x) p X R I' := by
  obtain ⟨⟨rv, cv, b1, b2, b3⟩, h4, h5, h6⟩ := h
  have hk : Keep [p] w (w.setCell ⟨p, k, none⟩ x) := (Keep.refl _ _).setCell _ _ (by simp)
  refine ⟨⟨rv, cv, ?_, ?_, ?_⟩, h4, fun y hy => ⟨(h5 y hy).1, Nat.lt_of_lt_of_le (h5 y hy).2 hk.size⟩, fun y hy => ⟨(h6 y hy).1, Nat.lt_of_lt_of_le (h6 y hy).2.1 hk.size, (h6 y hy).2.2⟩⟩
  · rw [← hc]; exact b1.set k x
  · rw [h2]; exact b2.keep hk (fun y _ hy => by simpa using hy)
  · rw [h1]; exact b3.keep hk (fun y hy => by simp only [List.mem_singleton]; rintro rfl; exact (h6 _ hy).2.2 h4)
theorem It.at_ {B p : Nat} {w : World} {X R : List Nat} {I : InS} (h : It B w p X R I) : w.cell? ⟨p, 0, none⟩ = some (.string (S I.inp)) ∧ w.cell? ⟨p, 1, none⟩ = some (.int .i64 (I.held : Nat)) ∧ w.cell? ⟨p, 3, none⟩ = some (.int .i64 (I.skip : Nat)) ∧ w.cell? ⟨p, 5, none⟩ = some (.int .i64 I.st) := by
  obtain ⟨⟨rv, cv, b1, _⟩, _⟩ := h
  exact ⟨b1.get (k := 0) rfl, b1.get (k := 1) rfl, b1.get (k := 3) rfl, b1.get (k := 5) rfl⟩
theorem It.free {B p : Nat} {w : World} {X R : List Nat} {I : InS} (h : It B w p X R I) (k : Nat) : w.frozen? ⟨p, k, none⟩ = false := let ⟨⟨_, _, b1, _⟩, _, _, _⟩ := h; b1.frozen k
/-- a call's footprint -/
theorem It.keepX {B p : Nat} {w w' : World} {X R : List Nat} {I : InS} (h : It B w p X R I) (k : Keep [p] w w') : Keep X w w' := k.mono (fun x hx _ => by simp at hx; subst hx; exact h.mem)

set_option maxHeartbeats 1000000 in
set_option maxRecDepth 100000 in
theorem inlet_New (B : Nat) (w : World) (hB : B ≤ w.heap.size) :
    Calls Tryd.prog 36 #[] w fun e w' => ∃ p, e = .returned (.pointer (some ⟨p, 0, none⟩)) ∧ w.heap.size ≤ p ∧ It B w' p [p] [] in0 ∧ Keep [] w w' := by
  have H := Lib.hid (Blk.newA w (inC in0 (.pointer none) (.pointer none)).toArray 100)
  go_enter Tryd.func36, Tryd.ntmps36
  go_wp2_with fail
  go_ret
  exact ⟨w.heap.size, rfl, Nat.le_refl _, ⟨⟨.pointer none, .pointer none, H.out, rfl, rfl⟩, by simp, fun x hx => by simp at hx; subst hx; simp; omega, by simp⟩, (Keep.refl [] w).alloc _⟩
set_option maxHeartbeats 1000000 in
set_option maxRecDepth 100000 in
theorem inlet_Left {B p : Nat} {X R : List Nat} {I : InS} {w : World} (h : It B w p X R I) (hl : I.inp.length + I.held ≤ 1048576) :
    Calls Tryd.prog 41 #[.pointer (some ⟨p, 0, none⟩)] w fun e w' => e = .returned (.int .i64 (I.left : Nat)) ∧ Keep [] w w' := by
  obtain ⟨c0, c1, _, _⟩ := h.at_
  have sz := S_size I.inp
  have hw := IntWalk.i64_in ((I.inp.length : Int) + (I.held : Int)) (by omega)
  have HF := Lib.hid (show ((I.inp.length : Int) + (I.held : Int)) = ((I.left : Nat) : Int) by unfold InS.left; omega)
  clear h
  go_enter Tryd.func41, Tryd.ntmps41
  go_wp2_with fail
  go_region_with fail
  all_goals
    go_wp2_with fail
    go_ret
    exact ⟨ret_int HF.out, by repeat (first | exact Keep.refl _ _ | apply Keep.drew)⟩
set_option maxHeartbeats 1000000 in
set_option maxRecDepth 100000 in
theorem inlet_wrong {B p : Nat} {X R : List Nat} {I : InS} {w : World} (h : It B w p X R I) :
    Calls Tryd.prog 67 #[.pointer (some ⟨p, 0, none⟩)] w fun e w' => e = .returned (.int .i64 I.st) ∧ w = w' := by
  obtain ⟨_, _, _, c5⟩ := h.at_
  clear h
  go_enter Tryd.func67, Tryd.ntmps67
  go_wp2_with fail
  go_ret
  exact ⟨rfl, rfl⟩
set_option maxHeartbeats 1000000 in
set_option maxRecDepth 100000 in
theorem inlet_told (e0 long : Int) (w : World) :
    Calls Tryd.prog 94 #[.int .i64 e0, .int .i64 long] w fun e w' => e = .returned (.int .i64 (toldE e0 long)) ∧ w = w' := by
  have hT : toldE e0 long = if e0 = 0 ∨ e0 = 17 then 0 else if e0 = 4 then long else 400 := rfl
  by_cases h0 : e0 = 0
  · rw [if_pos (.inl h0)] at hT
    have HT := Lib.hid hT
    have q := (int_eq h0).1
    clear h0 hT
    go_enter Tryd.func94, Tryd.ntmps94
    go_wp2_with fail
    go_ret
    exact ⟨ret_int HT.out.symm, rfl⟩
  · by_cases h17 : e0 = 17
    · rw [if_pos (.inr h17)] at hT
      have HT := Lib.hid hT
      subst h17
      clear h0 hT
      go_enter Tryd.func94, Tryd.ntmps94
      go_wp2_with fail
      go_ret
      exact ⟨ret_int HT.out.symm, rfl⟩
    · rw [if_neg (by omega)] at hT
      have q := (int_ne h0).1
      have q2 := (int_ne h17).1
      by_cases h4 : e0 = 4
      · rw [if_pos h4] at hT
        have HT := Lib.hid hT
        subst h4
        clear h0 h17 hT q q2
        go_enter Tryd.func94, Tryd.ntmps94
        go_wp2_with fail
        go_ret
        exact ⟨ret_int HT.out.symm, rfl⟩
      · rw [if_neg h4] at hT
        have HT := Lib.hid hT
        have q3 := (int_ne h4).1
        clear h0 h17 hT h4
        go_enter Tryd.func94, Tryd.ntmps94
        go_wp2_with fail
        go_ret
        exact ⟨ret_int HT.out.symm, rfl⟩
set_option maxHeartbeats 2000000 in
set_option maxRecDepth 100000 in
theorem inlet_Add {B p : Nat} {X R : List Nat} {I : InS} {w : World} (s : List UInt8) (h : It B w p X R I) (hl : I.inp.length + I.held ≤ 1048576) (hs : s.length ≤ 1048576) :
    Calls Tryd.prog 37 #[.pointer (some ⟨p, 0, none⟩), .string (S s)] w fun e w' => e = .returned (.int .i64 (inAdd I s).2) ∧ It B w' p X R (inAdd I s).1 ∧ Keep [p] w w' := by
  obtain ⟨c0, _, _, c5⟩ := h.at_
  have f0 := h.free 0
  have sz := S_size s
  have sz2 := S_size I.inp
  have hA : inAdd I s = if I.st ≠ 0 then (I, 8) else if (16384 : Int) - I.left < s.length then (I, 6) else ({ I with inp := I.inp ++ s }, 0) := rfl
  have HL := Lib.hid (inlet_Left h hl)
  have H := Lib.hid h
  have hll : I.left = I.inp.length + I.held := rfl
  have hw := IntWalk.i64_in ((16384 : Int) - (I.left : Int)) (by omega)
  by_cases h0 : I.st = 0
  · rw [if_neg (by simp [h0])] at hA
    have q1 := (int_eq h0).2
    by_cases h6 : (16384 : Int) - I.left < s.length
    · rw [if_pos h6] at hA
      have HA := Lib.hid hA
      have q2 : decide ((s.length : Int) > (16384 : Int) - I.left) = true := by simp; omega
      clear hA h h0 hll
      go_enter Tryd.func37, Tryd.ntmps37
      go_wp2_with fail
      refine HL.out.mono ?_
      rintro e w1 ⟨rfl, k1⟩
      have K1 := Lib.hid k1
      clear k1
      go_wp2_with fail
      go_ret
      rw [HA.out]
      exact ⟨rfl, H.out.keep0 K1.out, K1.out.mono (by simp)⟩
    · rw [if_neg h6] at hA
      have HA := Lib.hid hA
      have q2 : decide ((s.length : Int) > (16384 : Int) - I.left) = false := by simp; omega
      have q3 := S_append I.inp s
      have hov : ¬ 9223372036854775807 < I.inp.length + s.length := by omega
      clear hA h h0 hll c0 f0
      go_enter Tryd.func37, Tryd.ntmps37
      go_wp2_with fail
      refine HL.out.mono ?_
      rintro e w1 ⟨rfl, k1⟩
      have K1 := Lib.hid k1
      have H1 := Lib.hid (H.out.keep0 k1)
      obtain ⟨c0, _, _, _⟩ := H1.out.at_
      have f0 := H1.out.free 0
      clear k1 c5
      go_wp2_with fail
      go_ret
      rw [HA.out]
      exact ⟨rfl, H1.out.set 0 (.string (S (I.inp ++ s))) (fun _ _ => rfl) rfl rfl, (K1.out.mono (by simp)).setCell _ _ (by simp)⟩
  · rw [if_pos h0] at hA
    have HA := Lib.hid hA
    have q1 := (int_ne h0).2
    clear hA h h0 hll
    go_enter Tryd.func37, Tryd.ntmps37
    go_wp2_with fail
    go_ret
    rw [HA.out]
    exact ⟨rfl, H.out, Keep.refl _ _⟩
end Go.Proofs.YtmfnciocnlmceaaDoor

/- Layer 10, plain law: what a head comes to is no longer than its bytes. No program. -/
namespace Go.Proofs.YtmfnciocnlmceaaDoor
open Go.RowKit

theorem trimW_le (l : List UInt8) : (trimW l).length ≤ l.length := by
  unfold trimW Lib.trimS Lib.trimLeftS Lib.trimRightS
  refine Nat.le_trans (List.dropWhile_sublist _).length_le ?_
  rw [List.length_reverse]
  refine Nat.le_trans (List.dropWhile_sublist _).length_le ?_
  simp
theorem parse_le {l : List UInt8} {f : Fld} (h : parseF l = some f) : f.name.length ≤ l.length ∧ f.value.length ≤ l.length := by
  unfold parseF at h
  dsimp only at h
  have hc := cut_len l [58]
  split at h
  · cases h
    exact ⟨hc.1, Nat.le_trans (trimW_le _) hc.2⟩
  · cases h
def Small (m : Nat) (F : List Fld) : Prop := F.length ≤ 32 ∧ ∀ x ∈ F, x.name.length ≤ m ∧ x.value.length ≤ m
theorem add_small {m : Nat} {F : List Fld} {l : List UInt8} (h : Small m F) (hl : l.length ≤ m) : Small m (addM F l).1 := by
  unfold addM
  split
  · exact h
  · rename_i f hf
    have hp := parse_le hf
    split
    · exact h
    · refine ⟨by simp; omega, fun x hx => ?_⟩
      rcases List.mem_append.1 hx with hx | hx
      · exact h.2 x hx
      · simp at hx; subst hx; exact ⟨by omega, by omega⟩
theorem loop_small (s st : List UInt8) : ∀ (k : Nat) (F : List Fld) (n : Nat), n ≤ s.length → n ≤ 4096 → Small s.length F → Small s.length (loopM s st k F n).F ∧ (loopM s st k F n).st = st
  | 0, F, n, h, _, hF => ⟨hF, rfl⟩
  | k + 1, F, n, h, h2, hF => by
    have hb := next_bounds h h2
    unfold loopM
    by_cases h4 : (nextM s n).2.2 ≠ 0
    · rw [if_pos h4]; exact ⟨hF, rfl⟩
    · rw [if_neg h4]
      by_cases h5 : (nextM s n).1 = []
      · rw [if_pos h5]; exact ⟨hF, rfl⟩
      · rw [if_neg h5]
        have ha := add_small hF hb.2.2.2
        by_cases h6 : (addM F (nextM s n).1).2 ≠ 0
        · rw [if_pos h6]; exact ⟨ha, rfl⟩
        · rw [if_neg h6]; exact loop_small s st k _ _ hb.1 hb.2.1 ha
theorem split_small (s : List UInt8) : Small s.length (splitM s).F ∧ (splitM s).st.length ≤ s.length ∧ (splitM s).n ≤ s.length := by
  have hb := next_bounds (s := s) (n := 0) (Nat.zero_le _) (Nat.zero_le _)
  have h0 : Small s.length [] := ⟨by simp, by simp⟩
  have hr : Small s.length (readM s).F ∧ (readM s).st.length ≤ s.length := by
    unfold readM
    by_cases h4 : (nextM s 0).2.2 ≠ 0
    · rw [if_pos h4]; exact ⟨h0, by simp⟩
    · rw [if_neg h4]
      by_cases h6 : beginE (nextM s 0).1 ≠ 0
      · rw [if_pos h6]; exact ⟨h0, by simp⟩
      · rw [if_neg h6]
        have := loop_small s (nextM s 0).1 4097 [] (nextM s 0).2.1 hb.1 hb.2.1 h0
        exact ⟨this.1, by rw [this.2]; exact hb.2.2.2⟩
  refine ⟨?_, ?_, split_n_le s⟩ <;> unfold splitM <;> split
  · exact h0
  · exact hr.1
  · simp
  · exact hr.2
theorem loop_pos (s st : List UInt8) : ∀ (k : Nat) (F : List Fld) (n : Nat), n ≤ s.length → n ≤ 4096 → (loopM s st k F n).e = 0 → n + 1 ≤ (loopM s st k F n).n
  | 0, F, n, h, _, he => by unfold loopM at he; simp at he
  | k + 1, F, n, h, h2, he => by
    have hb := next_bounds h h2
    unfold loopM at he ⊢
    by_cases h4 : (nextM s n).2.2 ≠ 0
    · rw [if_pos h4] at he; exact absurd he h4
    · rw [if_neg h4] at he ⊢
      have hn := hb.2.2.1 (by simpa using h4)
      by_cases h5 : (nextM s n).1 = []
      · rw [if_pos h5]; exact hn
      · rw [if_neg h5] at he ⊢
        by_cases h6 : (addM F (nextM s n).1).2 ≠ 0
        · rw [if_pos h6]; exact hn
        · rw [if_neg h6] at he ⊢
          have := loop_pos s st k _ _ hb.1 hb.2.1 he
          omega
theorem split_pos (s : List UInt8) : (splitM s).e = 0 → 2 ≤ (splitM s).n := by
  have hb := next_bounds (s := s) (n := 0) (Nat.zero_le _) (Nat.zero_le _)
  have hr : (readM s).e = 0 → 2 ≤ (readM s).n := by
    unfold readM
    by_cases h4 : (nextM s 0).2.2 ≠ 0
    · rw [if_pos h4]; intro h; exact absurd h h4
    · rw [if_neg h4]
      have := hb.2.2.1 (by simpa using h4)
      by_cases h6 : beginE (nextM s 0).1 ≠ 0
      · rw [if_pos h6]; intro h; exact absurd h h6
      · rw [if_neg h6]
        intro he
        have := loop_pos s _ _ _ _ hb.1 hb.2.1 he
        omega
  unfold splitM
  split
  · rename_i h; intro h2; exact absurd h2 h
  · exact hr
end Go.Proofs.YtmfnciocnlmceaaDoor

/- Layer 13 and 12: Reason, Bodyless; a request line's parts: isDigit, isTarget, minor. No conditions but on lengths. -/
namespace Go.Proofs.YtmfnciocnlmceaaDoor
open Go.RowKit Go.Shelf

set_option maxRecDepth 100000 in
set_option maxHeartbeats 4000000 in
theorem outlet_Reason (s : Int) (w : World) : Calls Tryd.prog 18 #[.int .i64 s] w fun e w' => e = .returned (.string (S (reasonM s))) ∧ w' = w := by
  by_cases h200 : s = 200
  · subst h200
    go_enter Tryd.func18, Tryd.ntmps18
    go_wp2_with fail
    go_ret
    exact ⟨rfl, rfl⟩
  by_cases h206 : s = 206
  · subst h206
    go_enter Tryd.func18, Tryd.ntmps18
    go_wp2_with fail
    go_ret
    exact ⟨rfl, rfl⟩
  by_cases h304 : s = 304
  · subst h304
    go_enter Tryd.func18, Tryd.ntmps18
    go_wp2_with fail
    go_ret
    exact ⟨rfl, rfl⟩
  by_cases h400 : s = 400
  · subst h400
    go_enter Tryd.func18, Tryd.ntmps18
    go_wp2_with fail
    go_ret
    exact ⟨rfl, rfl⟩
  by_cases h404 : s = 404
  · subst h404
    go_enter Tryd.func18, Tryd.ntmps18
    go_wp2_with fail
    go_ret
    exact ⟨rfl, rfl⟩
  by_cases h405 : s = 405
  · subst h405
    go_enter Tryd.func18, Tryd.ntmps18
    go_wp2_with fail
    go_ret
    exact ⟨rfl, rfl⟩
  by_cases h406 : s = 406
  · subst h406
    go_enter Tryd.func18, Tryd.ntmps18
    go_wp2_with fail
    go_ret
    exact ⟨rfl, rfl⟩
  by_cases h413 : s = 413
  · subst h413
    go_enter Tryd.func18, Tryd.ntmps18
    go_wp2_with fail
    go_ret
    exact ⟨rfl, rfl⟩
  by_cases h416 : s = 416
  · subst h416
    go_enter Tryd.func18, Tryd.ntmps18
    go_wp2_with fail
    go_ret
    exact ⟨rfl, rfl⟩
  by_cases h431 : s = 431
  · subst h431
    go_enter Tryd.func18, Tryd.ntmps18
    go_wp2_with fail
    go_ret
    exact ⟨rfl, rfl⟩
  by_cases h502 : s = 502
  · subst h502
    go_enter Tryd.func18, Tryd.ntmps18
    go_wp2_with fail
    go_ret
    exact ⟨rfl, rfl⟩
  by_cases h503 : s = 503
  · subst h503
    go_enter Tryd.func18, Tryd.ntmps18
    go_wp2_with fail
    go_ret
    exact ⟨rfl, rfl⟩
  by_cases h504 : s = 504
  · subst h504
    go_enter Tryd.func18, Tryd.ntmps18
    go_wp2_with fail
    go_ret
    exact ⟨rfl, rfl⟩
  by_cases h505 : s = 505
  · subst h505
    go_enter Tryd.func18, Tryd.ntmps18
    go_wp2_with fail
    go_ret
    exact ⟨rfl, rfl⟩
  have q200 : (s == 200) = false := (int_ne h200).1
  have q206 : (s == 206) = false := (int_ne h206).1
  have q304 : (s == 304) = false := (int_ne h304).1
  have q400 : (s == 400) = false := (int_ne h400).1
  have q404 : (s == 404) = false := (int_ne h404).1
  have q405 : (s == 405) = false := (int_ne h405).1
  have q406 : (s == 406) = false := (int_ne h406).1
  have q413 : (s == 413) = false := (int_ne h413).1
  have q416 : (s == 416) = false := (int_ne h416).1
  have q431 : (s == 431) = false := (int_ne h431).1
  have q502 : (s == 502) = false := (int_ne h502).1
  have q503 : (s == 503) = false := (int_ne h503).1
  have q504 : (s == 504) = false := (int_ne h504).1
  have q505 : (s == 505) = false := (int_ne h505).1
  have HR := Lib.hid (show reasonM s = [85, 110, 107, 110, 111, 119, 110] by unfold reasonM; simp only [h200, h206, h304, h400, h404, h405, h406, h413, h416, h431, h502, h503, h504, h505, if_false])
  clear h200 h206 h304 h400 h404 h405 h406 h413 h416 h431 h502 h503 h504 h505
  go_enter Tryd.func18, Tryd.ntmps18
  go_wp2_with fail
  go_ret
  exact ⟨by rw [HR.out]; rfl, rfl⟩
set_option maxRecDepth 100000 in
set_option maxHeartbeats 4000000 in
theorem ref_Reason (s : Int) (w : World) : Calls Tryd.prog 19 #[.int .i64 s] w fun e w' => e = .returned (.string (S (reasonM s))) ∧ w' = w := by
  by_cases h200 : s = 200
  · subst h200
    go_enter Tryd.func19, Tryd.ntmps19
    go_wp2_with fail
    go_ret
    exact ⟨rfl, rfl⟩
  by_cases h206 : s = 206
  · subst h206
    go_enter Tryd.func19, Tryd.ntmps19
    go_wp2_with fail
    go_ret
    exact ⟨rfl, rfl⟩
  by_cases h304 : s = 304
  · subst h304
    go_enter Tryd.func19, Tryd.ntmps19
    go_wp2_with fail
    go_ret
    exact ⟨rfl, rfl⟩
  by_cases h400 : s = 400
  · subst h400
    go_enter Tryd.func19, Tryd.ntmps19
    go_wp2_with fail
    go_ret
    exact ⟨rfl, rfl⟩
  by_cases h404 : s = 404
  · subst h404
    go_enter Tryd.func19, Tryd.ntmps19
    go_wp2_with fail
    go_ret
    exact ⟨rfl, rfl⟩
  by_cases h405 : s = 405
  · subst h405
    go_enter Tryd.func19, Tryd.ntmps19
    go_wp2_with fail
    go_ret
    exact ⟨rfl, rfl⟩
  by_cases h406 : s = 406
  · subst h406
    go_enter Tryd.func19, Tryd.ntmps19
    go_wp2_with fail
    go_ret
    exact ⟨rfl, rfl⟩
  by_cases h413 : s = 413
  · subst h413
    go_enter Tryd.func19, Tryd.ntmps19
    go_wp2_with fail
    go_ret
    exact ⟨rfl, rfl⟩
  by_cases h416 : s = 416
  · subst h416
    go_enter Tryd.func19, Tryd.ntmps19
    go_wp2_with fail
    go_ret
    exact ⟨rfl, rfl⟩
  by_cases h431 : s = 431
  · subst h431
    go_enter Tryd.func19, Tryd.ntmps19
    go_wp2_with fail
    go_ret
    exact ⟨rfl, rfl⟩
  by_cases h502 : s = 502
  · subst h502
    go_enter Tryd.func19, Tryd.ntmps19
    go_wp2_with fail
    go_ret
    exact ⟨rfl, rfl⟩
  by_cases h503 : s = 503
  · subst h503
    go_enter Tryd.func19, Tryd.ntmps19
    go_wp2_with fail
    go_ret
    exact ⟨rfl, rfl⟩
  by_cases h504 : s = 504
  · subst h504
    go_enter Tryd.func19, Tryd.ntmps19
    go_wp2_with fail
    go_ret
    exact ⟨rfl, rfl⟩
  by_cases h505 : s = 505
  · subst h505
    go_enter Tryd.func19, Tryd.ntmps19
    go_wp2_with fail
    go_ret
    exact ⟨rfl, rfl⟩
  have q200 : (s == 200) = false := (int_ne h200).1
  have q206 : (s == 206) = false := (int_ne h206).1
  have q304 : (s == 304) = false := (int_ne h304).1
  have q400 : (s == 400) = false := (int_ne h400).1
  have q404 : (s == 404) = false := (int_ne h404).1
  have q405 : (s == 405) = false := (int_ne h405).1
  have q406 : (s == 406) = false := (int_ne h406).1
  have q413 : (s == 413) = false := (int_ne h413).1
  have q416 : (s == 416) = false := (int_ne h416).1
  have q431 : (s == 431) = false := (int_ne h431).1
  have q502 : (s == 502) = false := (int_ne h502).1
  have q503 : (s == 503) = false := (int_ne h503).1
  have q504 : (s == 504) = false := (int_ne h504).1
  have q505 : (s == 505) = false := (int_ne h505).1
  have HR := Lib.hid (show reasonM s = [85, 110, 107, 110, 111, 119, 110] by unfold reasonM; simp only [h200, h206, h304, h400, h404, h405, h406, h413, h416, h431, h502, h503, h504, h505, if_false])
  clear h200 h206 h304 h400 h404 h405 h406 h413 h416 h431 h502 h503 h504 h505
  go_enter Tryd.func19, Tryd.ntmps19
  go_wp2_with fail
  go_ret
  exact ⟨by rw [HR.out]; rfl, rfl⟩
set_option maxHeartbeats 1000000 in
theorem outlet_Bodyless (s : Int) (h : Bool) (w : World) :
    Calls Tryd.prog 20 #[.int .i64 s, .bool h] w fun e w' => e = .returned (.bool (h || (decide (100 ≤ s) && decide (s < 200)) || decide (s = 204) || decide (s = 304))) ∧ w' = w := by
  cases h with
  | true =>
    go_enter Tryd.func20, Tryd.ntmps20
    go_wp2_with fail
    go_ret
    exact ⟨by simp, rfl⟩
  | false =>
    by_cases h1 : 100 ≤ s ∧ s < 200
    · obtain ⟨ha, hb⟩ := h1
      have ha' : decide (s ≥ 100) = true := by simp; omega
      go_enter Tryd.func20, Tryd.ntmps20
      go_wp2_with fail
      go_ret
      exact ⟨by simp [ha, hb], rfl⟩
    · have hx : (decide (100 ≤ s) && decide (s < 200)) = false := by simp; omega
      rw [hx]
      by_cases ha : 100 ≤ s
      · have hb : decide (s < 200) = false := by simp; omega
        by_cases h4 : s = 204
        · have h4' := (int_eq h4).1
          clear h1 hx
          go_enter Tryd.func20, Tryd.ntmps20
          go_wp2_with fail
          go_ret
          exact ⟨by simp [h4], rfl⟩
        · have h4' := (int_ne h4).1
          clear h1 hx
          go_enter Tryd.func20, Tryd.ntmps20
          go_wp2_with fail
          all_goals (go_ret; refine ⟨?_, rfl⟩)
          all_goals (by_cases h5 : s = 304 <;> simp [h4, h5])
      · by_cases h4 : s = 204
        · omega
        · have h4' := (int_ne h4).1
          clear h1 hx
          go_enter Tryd.func20, Tryd.ntmps20
          go_wp2_with fail
          all_goals (go_ret; refine ⟨?_, rfl⟩)
          all_goals (by_cases h5 : s = 304 <;> simp [h5])

set_option maxHeartbeats 400000 in
theorem inlet_isDigit (b : UInt8) (w : World) :
    Calls Tryd.prog 84 #[.int .u8 b.toNat] w fun e w' => e = .returned (.bool (digB b)) ∧ w = w' := by
  have hb := u8_nat b
  by_cases h1 : 48 ≤ b.toNat
  · by_cases h2 : b.toNat ≤ 57
    · go_enter Tryd.func84, Tryd.ntmps84
      go_wp2_with fail
      go_ret
      exact ⟨by simp [digB, h1, h2] <;> omega, rfl⟩
    · go_enter Tryd.func84, Tryd.ntmps84
      go_wp2_with fail
      go_ret
      exact ⟨by simp [digB, h1, h2] <;> omega, rfl⟩
  · go_enter Tryd.func84, Tryd.ntmps84
    go_wp2_with fail
    go_ret
    exact ⟨by simp [digB, h1], rfl⟩

set_option maxRecDepth 100000 in
set_option maxHeartbeats 1000000 in
theorem inlet_isTarget (l : List UInt8) (w : World) (hs : l.length ≤ maxLen) :
    Calls Tryd.prog 53 #[.string (S l)] w fun e w' => e = .returned (.bool (isTgt l)) ∧ Keep [] w w' := by
  have hs' : l.length ≤ 9223372036854775807 := hs
  have hcv := conv_run w (S l)
  have hcell : Hid (∀ (k : Nat) (c : UInt8), l[k]? = some c → _) := fun k c h => conv_at w 5 h
  have hkp := conv_keep w 5 (S l)
  generalize Lib.bytesWorld w 5 (S l) = wb at hcv hcell hkp
  have hsz := S_size l
  have hte := S_toList l
  clear hs
  go_enter Tryd.func53, Tryd.ntmps53
  go_wp2_with fail
  go_loop [8] (fun i => ∃ k : Nat, i = .int .i64 k ∧ k ≤ l.length ∧ Hid ((l.take k).all tgtB = true)) (fun i => l.length - (intOf i).toNat)
  case atStart => exact ⟨0, rfl, Nat.zero_le _, by simp [Hid]⟩
  case round =>
    obtain ⟨k, rfl, hk, hall⟩ := hrel
    by_cases hlt : k < l.length
    · obtain ⟨c, hg⟩ : ∃ c, l[k]? = some c := ⟨_, List.getElem?_eq_getElem hlt⟩
      have hc := hcell.out k c hg
      have hc8 := u8_nat c
      have HG := Lib.hid hg
      clear hg
      by_cases ht : tgtB c = true
      · have h1 : 33 ≤ c.toNat ∧ c.toNat ≤ 126 := by simpa [tgtB] using ht
        have h2 : ¬ c.toNat ≤ 32 := by omega
        have h3 : ¬ 126 < c.toNat := by omega
        have HT := Lib.hid ht
        clear ht h1
        go_wp2_with fail
        go_round
        case rel => exact ⟨k + 1, by go_num, by omega, by rw [Hid, take_snoc HG.out, List.all_append, hall.out]; simp [HT.out]⟩
        case measure => simp [intOf]; omega
      · have this : isTgt l = false := by
          unfold isTgt
          rw [show l.all tgtB = false from by rw [List.all_eq_false]; exact ⟨c, List.mem_of_getElem? HG.out, ht⟩]
          rfl
        have H := Lib.hid this
        by_cases h2 : c.toNat ≤ 32
        · clear this ht
          go_wp2_with fail
          go_ret
          exact ⟨ret_bool H.out.symm, hkp⟩
        · have h3 : 126 < c.toNat := by
            simp [tgtB] at ht
            omega
          clear this ht
          go_wp2_with fail
          go_ret
          exact ⟨ret_bool H.out.symm, hkp⟩
    · have e : l.take k = l := List.take_of_length_le (by omega)
      rw [e] at hall
      clear e
      go_wp2_with fail
      go_ret
      refine ⟨ret_bool ?_, hkp⟩
      unfold isTgt
      rw [hall.out]
      simp
end Go.Proofs.YtmfnciocnlmceaaDoor

/- Layer 12: minor, Line: a request line. No conditions but on lengths. -/
namespace Go.Proofs.YtmfnciocnlmceaaDoor
open Go.RowKit Go.Shelf

theorem take5_prefix (l : List UInt8) : Lib.hasPrefix l httpB = decide (l.take 5 = httpB) := by
  rw [Bool.eq_iff_iff]
  unfold Lib.hasPrefix
  rw [List.isPrefixOf_iff_prefix, List.prefix_iff_eq_take]
  constructor
  · intro h; exact decide_eq_true h.symm
  · intro h; exact (of_decide_eq_true h).symm
theorem ver_no {l : List UInt8} (h : Lib.hasPrefix l httpB = false ∨ l.length ≠ 8) : minS l = 400 ∧ minV l = 0 := by
  have hv : verOk l = false := by
    unfold verOk
    rcases h with h | h
    · rw [take5_prefix] at h; rw [h]; simp
    · simp [h]
  have hs : minS l = 400 := by unfold minS; rw [hv]; rfl
  exact ⟨hs, by unfold minV; rw [hs]; rfl⟩
theorem ver_of (a p c : UInt8) : minS (httpB ++ [a, p, c]) = (if digB a && (p == 46) && digB c then (if a = 49 ∧ c.toNat ≤ 49 then 200 else 505) else 400) ∧ minV (httpB ++ [a, p, c]) = (if digB a && (p == 46) && digB c then (if a = 49 ∧ c.toNat ≤ 49 then (c.toNat : Int) - 48 else 0) else 0) := by
  have hv : verOk (httpB ++ [a, p, c]) = (digB a && (p == 46) && digB c) := by
    unfold verOk
    simp [httpB]
  have hs : minS (httpB ++ [a, p, c]) = (if digB a && (p == 46) && digB c then (if a = 49 ∧ c.toNat ≤ 49 then 200 else 505) else 400) := by
    unfold minS
    rw [hv]
    rfl
  refine ⟨hs, ?_⟩
  unfold minV
  rw [hs]
  by_cases h1 : (digB a && (p == 46) && digB c) = true
  · by_cases h2 : a = 49 ∧ c.toNat ≤ 49
    · rw [if_pos h1, if_pos h2, if_pos rfl, if_pos h1, if_pos h2]; rfl
    · rw [if_pos h1, if_neg h2, if_neg (by decide), if_pos h1, if_neg h2]
  · rw [if_neg h1, if_neg (by decide), if_neg h1]

set_option maxRecDepth 100000 in
set_option maxHeartbeats 2000000 in
theorem inlet_minor (l : List UInt8) (w : World) (hl : l.length ≤ maxLen) :
    Calls Tryd.prog 54 #[.string (S l)] w fun e w' => e = .returned (.tuple #[.int .i64 (minV l), .int .i64 (minS l)]) ∧ Keep [] w w' := by
  have hl' : l.length ≤ 9223372036854775807 := hl
  have hP : Calls Tryd.prog 83 #[.string (S l), .string ⟨#[72, 84, 84, 80, 47]⟩] w fun e w' => e = .returned (.tuple #[.string (S (Lib.trimPrefix l httpB)), .bool (Lib.hasPrefix l httpB)]) ∧ w' = w := by
    have := Tryd.strings_CutPrefix (S l) ⟨#[72, 84, 84, 80, 47]⟩ w
    rw [S_list] at this
    exact this
  have hsz := S_size l
  cases hpf : Lib.hasPrefix l httpB with
  | false =>
    obtain ⟨e1, e2⟩ := ver_no (.inl hpf)
    rw [e1, e2]
    rw [hpf] at hP
    have HP := Lib.hid hP
    clear hP hpf e1 e2
    go_enter Tryd.func54, Tryd.ntmps54
    go_wp2_with fail
    refine HP.out.mono ?_
    rintro e w1 ⟨rfl, rfl⟩
    go_wp2_with fail
    go_ret2
    exact ⟨rfl, Keep.refl _ _⟩
  | true =>
    rw [hpf] at hP
    by_cases h8 : l.length = 8
    · have hle : l = httpB ++ l.drop 5 := by
        rw [take5_prefix] at hpf
        have := of_decide_eq_true hpf
        rw [← this, List.take_append_drop]
      have htr : Lib.trimPrefix l httpB = l.drop 5 := by unfold Lib.trimPrefix; rw [if_pos hpf]; rfl
      have hr3 : (l.drop 5).length = 3 := by rw [List.length_drop, h8]
      rw [htr] at hP
      generalize l.drop 5 = r at *
      obtain ⟨a, p, c, rfl⟩ : ∃ a p c, r = [a, p, c] := by
        match r, hr3 with
        | [a, p, c], _ => exact ⟨a, p, c, rfl⟩
      have g0 := S_get (l := [a, p, c]) (k := 0) (c := a) rfl
      have g1 := S_get (l := [a, p, c]) (k := 1) (c := p) rfl
      have g2 := S_get (l := [a, p, c]) (k := 2) (c := c) rfl
      have hs3 : (S [a, p, c]).size = 3 := S_size _
      obtain ⟨hms, hmv⟩ := ver_of a p c
      rw [← hle] at hms hmv
      generalize minS l = ms at hms ⊢
      generalize minV l = mv at hmv ⊢
      have h8' : ((l.length : Nat) : Int) = 8 := by omega
      have h8q := (int_eq h8').2
      have HP := Lib.hid hP
      have Da := Lib.hid (fun w1 => inlet_isDigit a w1)
      have Dc := Lib.hid (fun w1 => inlet_isDigit c w1)
      have ca := u8_nat a
      have cp := u8_nat p
      have cc := u8_nat c
      generalize S [a, p, c] = sr at *
      clear hP hpf hle htr hr3 h8 h8'
      cases hda : digB a with
      | false =>
        rw [hda] at Da hms hmv
        have HX := Lib.hid (show mv = 0 ∧ ms = 400 from ⟨by simpa using hmv, by simpa using hms⟩)
        clear hms hmv hda
        go_enter Tryd.func54, Tryd.ntmps54
        go_wp2_with fail
        refine HP.out.mono ?_
        rintro e w1 ⟨rfl, rfl⟩
        go_wp2_with (first | (go_at_call 84; refine (Da.out _).mono ?_; rintro e w2 ⟨rfl, rfl⟩) | (go_at_call 84; refine (Dc.out _).mono ?_; rintro e w2 ⟨rfl, rfl⟩))
        go_ret2
        exact ⟨by rw [HX.out.1, HX.out.2]; rfl, Keep.refl _ _⟩
      | true =>
        by_cases hp : p = 46
        · have hpb : (p == 46) = true := by simp [hp]
          have hpn : ((p.toNat : Nat) : Int) = 46 := by rw [hp]; rfl
          have hpq := (int_eq hpn).2
          rw [hda, hpb] at hms hmv
          rw [hda] at Da
          clear hpn hp hpb
          cases hdc : digB c with
          | false =>
            rw [hdc] at Dc hms hmv
            have HX := Lib.hid (show mv = 0 ∧ ms = 400 from ⟨by simpa using hmv, by simpa using hms⟩)
            clear hms hmv hda hdc
            go_enter Tryd.func54, Tryd.ntmps54
            go_wp2_with fail
            refine HP.out.mono ?_
            rintro e w1 ⟨rfl, rfl⟩
            go_wp2_with (first | (go_at_call 84; refine (Da.out _).mono ?_; rintro e w2 ⟨rfl, rfl⟩) | (go_at_call 84; refine (Dc.out _).mono ?_; rintro e w2 ⟨rfl, rfl⟩))
            go_ret2
            exact ⟨by rw [HX.out.1, HX.out.2]; rfl, Keep.refl _ _⟩
          | true =>
            rw [hdc] at Dc hms hmv
            simp only [Bool.and_self, if_true] at hms hmv
            have hc9 : 48 ≤ c.toNat ∧ c.toNat ≤ 57 := by simpa [digB] using hdc
            obtain ⟨hc0, hc1⟩ := hc9
            by_cases ha : a = 49
            · have han : ((a.toNat : Nat) : Int) = 49 := by rw [ha]; rfl
              have haq := (int_eq han).2
              by_cases hc : c.toNat ≤ 49
              · rw [if_pos ⟨ha, hc⟩] at hms hmv
                have hcq : decide (((c.toNat : Nat) : Int) > 49) = false := by simp; omega
                have hwr := IntWalk.u8_in ((c.toNat : Int) - 48) (by omega)
                have hwi := IntWalk.i64_in ((c.toNat : Int) - 48) (by omega)
                have HX := Lib.hid (And.intro hmv hms)
                clear hms hmv hda hdc ha han
                go_enter Tryd.func54, Tryd.ntmps54
                go_wp2_with fail
                refine HP.out.mono ?_
                rintro e w1 ⟨rfl, rfl⟩
                go_wp2_with (first | (go_at_call 84; refine (Da.out _).mono ?_; rintro e w2 ⟨rfl, rfl⟩) | (go_at_call 84; refine (Dc.out _).mono ?_; rintro e w2 ⟨rfl, rfl⟩))
                go_ret2
                exact ⟨by rw [HX.out.1, HX.out.2]; rfl, Keep.refl _ _⟩
              · rw [if_neg (fun h => hc h.2)] at hms hmv
                have hcq : decide (((c.toNat : Nat) : Int) > 49) = true := by simp; omega
                have HX := Lib.hid (And.intro hmv hms)
                clear hms hmv hda hdc ha han
                go_enter Tryd.func54, Tryd.ntmps54
                go_wp2_with fail
                refine HP.out.mono ?_
                rintro e w1 ⟨rfl, rfl⟩
                go_wp2_with (first | (go_at_call 84; refine (Da.out _).mono ?_; rintro e w2 ⟨rfl, rfl⟩) | (go_at_call 84; refine (Dc.out _).mono ?_; rintro e w2 ⟨rfl, rfl⟩))
                go_ret2
                exact ⟨by rw [HX.out.1, HX.out.2]; rfl, Keep.refl _ _⟩
            · rw [if_neg (fun h => ha h.1)] at hms hmv
              have han : ((a.toNat : Nat) : Int) ≠ 49 := fun e => ha (UInt8.toNat_inj.1 (by show a.toNat = 49; omega))
              have haq := (int_ne han).2
              have HX := Lib.hid (And.intro hmv hms)
              clear hms hmv hda hdc ha han
              go_enter Tryd.func54, Tryd.ntmps54
              go_wp2_with fail
              refine HP.out.mono ?_
              rintro e w1 ⟨rfl, rfl⟩
              go_wp2_with (first | (go_at_call 84; refine (Da.out _).mono ?_; rintro e w2 ⟨rfl, rfl⟩) | (go_at_call 84; refine (Dc.out _).mono ?_; rintro e w2 ⟨rfl, rfl⟩))
              go_ret2
              exact ⟨by rw [HX.out.1, HX.out.2]; rfl, Keep.refl _ _⟩
        · have hpb : (p == 46) = false := by simp [hp]
          have hpn : ((p.toNat : Nat) : Int) ≠ 46 := fun e => hp (UInt8.toNat_inj.1 (by show p.toNat = 46; omega))
          have hpq := (int_ne hpn).2
          rw [hda, hpb] at hms hmv
          rw [hda] at Da
          have HX := Lib.hid (show mv = 0 ∧ ms = 400 from ⟨by simpa using hmv, by simpa using hms⟩)
          clear hms hmv hda hpn hp hpb
          go_enter Tryd.func54, Tryd.ntmps54
          go_wp2_with fail
          refine HP.out.mono ?_
          rintro e w1 ⟨rfl, rfl⟩
          go_wp2_with (first | (go_at_call 84; refine (Da.out _).mono ?_; rintro e w2 ⟨rfl, rfl⟩) | (go_at_call 84; refine (Dc.out _).mono ?_; rintro e w2 ⟨rfl, rfl⟩))
          go_ret2
          exact ⟨by rw [HX.out.1, HX.out.2]; rfl, Keep.refl _ _⟩
    · obtain ⟨e1, e2⟩ := ver_no (.inr h8)
      rw [e1, e2]
      have h8' : ((l.length : Nat) : Int) ≠ 8 := by omega
      have h8q := (int_ne h8').2
      have HP := Lib.hid hP
      clear hP hpf e1 e2 h8 h8'
      go_enter Tryd.func54, Tryd.ntmps54
      go_wp2_with fail
      refine HP.out.mono ?_
      rintro e w1 ⟨rfl, rfl⟩
      go_wp2_with fail
      go_ret2
      exact ⟨rfl, Keep.refl _ _⟩
end Go.Proofs.YtmfnciocnlmceaaDoor

/- Layer 12: Line: a request line. No conditions but on lengths. -/
namespace Go.Proofs.YtmfnciocnlmceaaDoor
open Go.RowKit Go.Shelf

theorem res4 {fn : Func} {t u v x : Tmp} (h : fn.results = #[.tmp t, .tmp u, .tmp v, .tmp x]) (tmps : Array Value) (P : Program) (w : World) :
    (results fn tmps).run P w = .ok (.tuple #[tmps.getD t undef, tmps.getD u undef, tmps.getD v undef, tmps.getD x undef]) w := by
  simp [results, h]
def Ln.out (r : Ln) : Value := .tuple #[.string (S r.m), .string (S r.t), .int .i64 r.v, .int .i64 r.s]
theorem ln_no {l : List UInt8} (h : ((Lib.cut l [32]).2.2 && (Lib.cut (Lib.cut l [32]).2.1 [32]).2.2 && isTok (Lib.cut l [32]).1 && isTgt (Lib.cut (Lib.cut l [32]).2.1 [32]).1) = false) : lnM l = ⟨[], [], 0, 400⟩ := by
  unfold lnM
  dsimp only
  rw [h]
  rfl
theorem ln_yes {l : List UInt8} (h : ((Lib.cut l [32]).2.2 && (Lib.cut (Lib.cut l [32]).2.1 [32]).2.2 && isTok (Lib.cut l [32]).1 && isTgt (Lib.cut (Lib.cut l [32]).2.1 [32]).1) = true) :
    lnM l = if minS (Lib.cut (Lib.cut l [32]).2.1 [32]).2.1 = 200 then ⟨(Lib.cut l [32]).1, (Lib.cut (Lib.cut l [32]).2.1 [32]).1, minV (Lib.cut (Lib.cut l [32]).2.1 [32]).2.1, 200⟩ else ⟨[], [], 0, minS (Lib.cut (Lib.cut l [32]).2.1 [32]).2.1⟩ := by
  unfold lnM
  dsimp only
  rw [h]
  rfl

set_option maxRecDepth 100000 in
set_option maxHeartbeats 2000000 in
theorem inlet_Line (l : List UInt8) (w : World) (hm : ML w) (hl : l.length < 4294967281) :
    Calls Tryd.prog 23 #[.string (S l)] w fun e w' => e = .returned (lnM l).out ∧ Keep [] w w' := by
  have hC1 : Calls Tryd.prog 51 #[.string (S l), .string ⟨#[32]⟩] w fun e w' => e = .returned (.tuple #[.string (S (Lib.cut l [32]).1), .string (S (Lib.cut l [32]).2.1), .bool (Lib.cut l [32]).2.2]) ∧ Keep [] w w' := strings_Cut l ⟨#[32]⟩ w hm hl
  have hl1 := cut_len l [32]
  have hno := ln_no (l := l)
  have hyes := ln_yes (l := l)
  generalize lnM l = R at *
  generalize Lib.cut l [32] = c1 at *
  obtain ⟨xm, r, ok1⟩ := c1
  dsimp only at *
  have hC2 := fun w1 (k : Keep [] w w1) => show Calls Tryd.prog 51 #[.string (S r), .string ⟨#[32]⟩] w1 fun e w' => e = .returned (.tuple #[.string (S (Lib.cut r [32]).1), .string (S (Lib.cut r [32]).2.1), .bool (Lib.cut r [32]).2.2]) ∧ Keep [] w1 w' from strings_Cut r ⟨#[32]⟩ w1 (hm.keep k (by simp)) (by omega)
  have hl2 := cut_len r [32]
  generalize Lib.cut r [32] = c2 at *
  obtain ⟨xt, xl, ok2⟩ := c2
  dsimp only at *
  have HT := Lib.hid (fun w' => field_IsToken xm w' (show xm.length ≤ 9223372036854775807 by omega))
  have HG := Lib.hid (fun w' => inlet_isTarget xt w' (show xt.length ≤ 9223372036854775807 by omega))
  have HM := Lib.hid (fun w' => inlet_minor xl w' (show xl.length ≤ 9223372036854775807 by omega))
  have HC1 := Lib.hid hC1
  have HC2 := Lib.hid hC2
  clear hC1 hC2 hl1 hl2
  cases ok1 with
  | false =>
    have HR := Lib.hid (hno rfl)
    clear hno hyes
    go_enter Tryd.func23, Tryd.ntmps23
    go_wp2_with fail
    refine HC1.out.mono ?_
    rintro e w1 ⟨rfl, k1⟩
    go_wp2_with fail
    refine (HC2.out _ k1).mono ?_
    rintro e w2 ⟨rfl, k2⟩
    go_wp2_with fail
    refine bodyPost_ret (res4 rfl _ _ _) rfl ⟨?_, k1.trans k2⟩
    rw [HR.out]
    rfl
  | true =>
    cases ok2 with
    | false =>
      have HR := Lib.hid (hno rfl)
      clear hno hyes
      go_enter Tryd.func23, Tryd.ntmps23
      go_wp2_with fail
      refine HC1.out.mono ?_
      rintro e w1 ⟨rfl, k1⟩
      go_wp2_with fail
      refine (HC2.out _ k1).mono ?_
      rintro e w2 ⟨rfl, k2⟩
      go_wp2_with fail
      refine bodyPost_ret (res4 rfl _ _ _) rfl ⟨?_, k1.trans k2⟩
      rw [HR.out]
      rfl
    | true =>
      cases htk : isTok xm with
      | false =>
        rw [htk] at HT hno
        have HR := Lib.hid (hno rfl)
        clear hno hyes htk
        go_enter Tryd.func23, Tryd.ntmps23
        go_wp2_with fail
        refine HC1.out.mono ?_
        rintro e w1 ⟨rfl, k1⟩
        go_wp2_with fail
        refine (HC2.out _ k1).mono ?_
        rintro e w2 ⟨rfl, k2⟩
        go_wp2_with fail
        refine (HT.out _).mono ?_
        rintro e w3 ⟨rfl, k3⟩
        go_wp2_with fail
        refine bodyPost_ret (res4 rfl _ _ _) rfl ⟨?_, (k1.trans k2).trans k3⟩
        rw [HR.out]
        rfl
      | true =>
        rw [htk] at HT hno hyes
        cases htg : isTgt xt with
        | false =>
          rw [htg] at HG hno
          have HR := Lib.hid (hno rfl)
          clear hno hyes htk htg
          go_enter Tryd.func23, Tryd.ntmps23
          go_wp2_with fail
          refine HC1.out.mono ?_
          rintro e w1 ⟨rfl, k1⟩
          go_wp2_with fail
          refine (HC2.out _ k1).mono ?_
          rintro e w2 ⟨rfl, k2⟩
          go_wp2_with fail
          refine (HT.out _).mono ?_
          rintro e w3 ⟨rfl, k3⟩
          go_wp2_with fail
          refine (HG.out _).mono ?_
          rintro e w4 ⟨rfl, k4⟩
          go_wp2_with fail
          refine bodyPost_ret (res4 rfl _ _ _) rfl ⟨?_, ((k1.trans k2).trans k3).trans k4⟩
          rw [HR.out]
          rfl
        | true =>
          rw [htg] at HG hyes
          have hR := hyes rfl
          clear hno hyes htk htg
          generalize minS xl = ms at *
          generalize minV xl = mv at *
          by_cases h2 : ms = 200
          · rw [if_pos h2] at hR
            have q := (int_eq h2).2
            have HR := Lib.hid hR
            clear hR h2
            go_enter Tryd.func23, Tryd.ntmps23
            go_wp2_with fail
            refine HC1.out.mono ?_
            rintro e w1 ⟨rfl, k1⟩
            go_wp2_with fail
            refine (HC2.out _ k1).mono ?_
            rintro e w2 ⟨rfl, k2⟩
            go_wp2_with fail
            refine (HT.out _).mono ?_
            rintro e w3 ⟨rfl, k3⟩
            go_wp2_with fail
            refine (HG.out _).mono ?_
            rintro e w4 ⟨rfl, k4⟩
            go_wp2_with fail
            refine (HM.out _).mono ?_
            rintro e w5 ⟨rfl, k5⟩
            go_wp2_with fail
            refine bodyPost_ret (res4 rfl _ _ _) rfl ⟨?_, (((k1.trans k2).trans k3).trans k4).trans k5⟩
            rw [HR.out]
            rfl
          · rw [if_neg h2] at hR
            have q := (int_ne h2).2
            have HR := Lib.hid hR
            clear hR h2
            go_enter Tryd.func23, Tryd.ntmps23
            go_wp2_with fail
            refine HC1.out.mono ?_
            rintro e w1 ⟨rfl, k1⟩
            go_wp2_with fail
            refine (HC2.out _ k1).mono ?_
            rintro e w2 ⟨rfl, k2⟩
            go_wp2_with fail
            refine (HT.out _).mono ?_
            rintro e w3 ⟨rfl, k3⟩
            go_wp2_with fail
            refine (HG.out _).mono ?_
            rintro e w4 ⟨rfl, k4⟩
            go_wp2_with fail
            refine (HM.out _).mono ?_
            rintro e w5 ⟨rfl, k5⟩
            go_wp2_with fail
            refine bodyPost_ret (res4 rfl _ _ _) rfl ⟨?_, (((k1.trans k2).trans k3).trans k4).trans k5⟩
            rw [HR.out]
            rfl
end Go.Proofs.YtmfnciocnlmceaaDoor
