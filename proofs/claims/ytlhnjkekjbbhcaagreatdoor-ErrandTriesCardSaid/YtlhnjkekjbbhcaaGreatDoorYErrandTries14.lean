/- Parts of the proof of ErrandTries, in order. No conditions but those that each theorem states. -/
import Derived.Test.YtlhnjkekjbbhcaaGreatDoorYErrandTries0
import Derived.WalkMore
import Derived.Test.YtlhnjkekjbbhcaaGreatDoorYErrandTries13
set_option linter.unusedSimpArgs false
set_option linter.unusedVariables false
namespace Go.Proofs.YtlhnjkekjbbhcaaGreatDoor
open Go.RowKit Go.Shelf
theorem Bd.set {B b o : Nat} {T : TypeId} {cs : List Value} {v : Value} {l : List UInt8} {w : World} (h : Bd B w b o T cs v l) (k : Nat) (x : Value) (h1 : k ≠ o) (h2 : k ≠ o + 1) : Bd B (w.setCell ⟨b, k, none⟩ x) b o T (cs.set k x) v l := by
  refine ⟨h.blk.set k x, ?_, ?_, ?_, h.ne⟩
  · rw [List.getElem?_set_ne h1]; exact h.ad
  · rw [List.getElem?_set_ne h2]; exact h.buf
  · exact h.own.keep (S := [b]) ((Keep.refl _ _).setCell _ _ (by simp)) (fun g hg => by
      simp only [List.mem_singleton]; rintro rfl; exact h.ne hg)
def Aft (B : Nat) (w : World) (b : Nat) (p : List UInt8) (v : Value) (c' : Ck) (w' : World) : Prop := ∃ v', Ct B w' b p c' v' ∧ Keep (b :: v.ownBlock.toList) w w' ∧ (v'.ownBlock = v.ownBlock ∨ ∃ g, v'.ownBlock = some g ∧ w.heap.size ≤ g)
theorem Aft.of {B b : Nat} {w w' : World} {p : List UInt8} {v : Value} {c' : Ck} (h : Ct B w' b p c' v) (k : Keep [b] w w') : Aft B w b p v c' w' := ⟨v, h, k.mono (fun x hx _ => by simp at hx; simp [hx]), .inl rfl⟩
theorem Aft.trans {B b : Nat} {w w1 w2 : World} {p : List UInt8} {v v1 v2 : Value} {c1 c2 : Ck} (h : Ct B w1 b p c1 v1) (k : Keep (b :: v.ownBlock.toList) w w1) (hv : v1.ownBlock = v.ownBlock ∨ ∃ g, v1.ownBlock = some g ∧ w.heap.size ≤ g)
    (h2 : Ct B w2 b p c2 v2) (k2 : Keep (b :: v1.ownBlock.toList) w1 w2) (hv2 : v2.ownBlock = v1.ownBlock ∨ ∃ g, v2.ownBlock = some g ∧ w1.heap.size ≤ g) : Aft B w b p v c2 w2 := by
  refine ⟨v2, h2, k.trans' k2 (fun x hx hl => ?_), ?_⟩
  · rcases List.mem_cons.1 hx with rfl | hx
    · simp
    · rcases hv with e | ⟨g, e, hg⟩
      · rw [e] at hx; exact List.mem_cons_of_mem _ hx
      · rw [e] at hx; have : x = g := by simpa using hx
        omega
  · rcases hv2 with e | ⟨g, e, hg⟩
    · rcases hv with e' | ⟨g, e', hg⟩
      · exact .inl (e.trans e')
      · exact .inr ⟨g, e.trans e', hg⟩
    · exact .inr ⟨g, e, Nat.le_trans k.size hg⟩
set_option maxRecDepth 100000 in
set_option maxHeartbeats 2000000 in
theorem chunk_data (B b : Nat) (p : List UInt8) (c : Ck) (v : Value) (w : World) (h : Ct B w b p c v) (hB : B ≤ w.heap.size) (hl : c.inp.length + c.dat.length ≤ 1048576) (hleft : (c.left : Int) ≤ 9223372036854775807) :
    Calls Tryz.prog 202 #[.pointer (some ⟨b, 0, none⟩)] w fun e w' => e = .returned (.int .i64 (dataM c).2) ∧ Aft B w b p v (dataM c).1 w' := by
  have sz := S_size c.inp; obtain ⟨_, c1, _, _, c4, _, _⟩ := h.at; have hmin : min ((c.left : Nat) : Int) ((c.inp.length : Nat) : Int) = ((min c.left c.inp.length : Nat) : Int) := by omega
  have hd := data_eq c _ rfl; have hn1 : min c.left c.inp.length ≤ c.left := Nat.min_le_left _ _; have hn2 : min c.left c.inp.length ≤ c.inp.length := Nat.min_le_right _ _; generalize min c.left c.inp.length = n at *; obtain ⟨ad, o, hbd, hdo⟩ := h; have ho : o.length ≤ c.dat.length := by rw [hdo]; simp
  have H := Lib.hid hbd; have HB := Lib.hid hB; have HD := Lib.hid hd; have HDO := Lib.hid hdo; clear hd hdo hbd hB; have hx1 : (S c.inp).extract 0 n = S (c.inp.take n) := by rw [S_extract, List.drop_zero]
  have hx2 : (S c.inp).extract n c.inp.length = S (c.inp.drop n) := by rw [S_extract, List.take_length]
  have lt : (c.inp.take n).length = n := by rw [List.length_take]; omega
  have i0 : (0 : Int) ≤ (n : Int) := by omega
  have i1 : (n : Int) ≤ (c.inp.length : Int) := by omega
  go_enter Tryz.func202, Tryz.ntmps202
  go_upto_region 1 with fail
  go_cut [3] (fun y wx => y = .int .i64 (n : Nat) ∧ Hid (Keep [] w wx))
  case first =>
    go_region_with fail
    all_goals
      go_wp2_with fail; go_meet; exact ⟨rfl, Lib.hid (by repeat (first | exact Keep.refl _ _ | apply Keep.drew))⟩
  case rest =>
  obtain ⟨rfl, KX⟩ := hcut; have H1 := Lib.hid (H.out.keep KX.out (by simp) (by simp)); have K1 := Lib.hid KX.out; clear c1 c4 hmin KX; have c4 := H1.out.blk.get (k := 4) rfl; have HW := Lib.hid (fun w2 (k2 : Keep [] wc w2) => bld_Write (c.inp.take n) (H1.out.keep k2 (by simp) (by simp)) ck_lies (Nat.le_trans (Nat.le_trans HB.out K1.out.size) k2.size) (by rw [lt]; omega))
  go_upto_region 2 with fail
  go_cut [] (fun wx => Hid (∃ v', Bd B wx b 5 200 (ckC c (.pointer (some ⟨b, 5, none⟩)) v') v' (o ++ c.inp.take n) ∧ Keep (b :: v.ownBlock.toList) w wx ∧ (v'.ownBlock = v.ownBlock ∨ ∃ g, v'.ownBlock = some g ∧ w.heap.size ≤ g)))
  case first =>
    go_region_with (first | (go_at_call 134; refine (HW.out _ (by repeat (first | exact Keep.refl _ _ | apply Keep.drew))).mono ?_; rintro e w2 ⟨rfl, v', hb', hk', hv'⟩; have HX := Lib.hid (And.intro hb' (And.intro hk' hv')); clear hb' hk' hv') | fail)
    all_goals
      go_wp2_with fail; go_meet; refine Lib.hid ?_; obtain ⟨hb', hk', hv'⟩ := HX.out; refine ⟨v', ?_, ?_, ?_⟩
      · exact hb'
      · refine Keep.trans' (Keep.mono (S' := b :: v.ownBlock.toList) (S := []) ?_ (by simp)) hk' (fun x hx _ => hx)
        repeat (first | exact K1.out | apply Keep.drew)
      · rcases hv' with e | ⟨g, e, hg⟩
        · exact .inl e
        · exact .inr ⟨g, e, Nat.le_trans K1.out.size hg⟩
  case rest =>
  have HC := hcut; clear hcut H1 K1 c4 HW hx1; obtain ⟨v', hb, hk, hv⟩ := HC.out; have HN := Lib.hid (And.intro hb (And.intro hk hv)); have c1 := hb.blk.get (k := 1) rfl; have c4 := hb.blk.get (k := 4) rfl; have c7 := hb.blk.get (k := 7) rfl; have c0 := hb.blk.get (k := 0) rfl; have f1 := hb.blk.frozen 1; have f4 := hb.blk.frozen 4; have f7 := hb.blk.frozen 7; have f0 := hb.blk.frozen 0; have w2 := IntWalk.i64_in ((c.dat.length : Int) + (n : Int)) (by omega); have ld : (c.dat ++ c.inp.take n).length = c.dat.length + n := by rw [List.length_append, lt]
  clear hb hk hv HC; have e1 : ((c.left : Int) - (n : Int)) = ((c.left - n : Nat) : Int) := by omega
  have e7 : ((c.dat.length : Int) + (n : Int)) = ((c.dat.length + n : Nat) : Int) := by omega
  have hdat : c.dat ++ c.inp.take n = p ++ (o ++ c.inp.take n) := by rw [HDO.out, List.append_assoc]
  generalize hlf : c.left - n = lf at *; have w1 := IntWalk.i64_in ((lf : Nat) : Int) (by omega); have HE := Lib.hid (And.intro e1 (And.intro e7 (And.intro ld hdat))); clear e7 ld hdat hlf; by_cases h0 : 0 < lf
  · have hd := HD.out; rw [if_pos h0] at hd; have HF := Lib.hid hd; have h0' : decide ((lf : Int) > 0) = true := by simp; omega
    clear hd HD; go_wp2_with fail; go_ret; rw [HF.out]; (try rw [HE.out.2.1, ← HE.out.2.2.1]); refine ⟨rfl, v', ⟨.pointer (some ⟨b, 5, none⟩), o ++ c.inp.take n, ?_, HE.out.2.2.2⟩, ((HN.out.2.1.setCell _ _ (by simp)).setCell _ _ (by simp)).setCell _ _ (by simp), HN.out.2.2⟩; have := ((HN.out.1.set 4 (.string (S (c.inp.drop n))) (by omega) (by omega)).set 1 (.int .i64 ((lf : Nat) : Int)) (by omega) (by omega)).set 7 (.int .i64 ((c.dat.length : Int) + (n : Int))) (by omega) (by omega); rw [HE.out.2.1, ← HE.out.2.2.1] at this; exact this
  · have hd := HD.out; rw [if_neg h0] at hd; have HF := Lib.hid hd; have h0' : decide ((lf : Int) > 0) = false := by simp; omega
    clear hd HD; go_wp2_with fail; go_ret; rw [HF.out]; (try rw [HE.out.2.1, ← HE.out.2.2.1]); refine ⟨rfl, v', ⟨.pointer (some ⟨b, 5, none⟩), o ++ c.inp.take n, ?_, HE.out.2.2.2⟩, (((HN.out.2.1.setCell _ _ (by simp)).setCell _ _ (by simp)).setCell _ _ (by simp)).setCell _ _ (by simp), HN.out.2.2⟩; have := (((HN.out.1.set 4 (.string (S (c.inp.drop n))) (by omega) (by omega)).set 1 (.int .i64 ((lf : Nat) : Int)) (by omega) (by omega)).set 7 (.int .i64 ((c.dat.length : Int) + (n : Int))) (by omega) (by omega)).set 0 (.int .i64 2) (by omega) (by omega); rw [HE.out.2.1, ← HE.out.2.2.1] at this; exact this
set_option maxRecDepth 100000 in
set_option maxHeartbeats 2000000 in
theorem chunk_step (B b : Nat) (p : List UInt8) (c : Ck) (v : Value) (w : World) (hm : ML w) (hb : 1 ≠ b) (h : Ct B w b p c v) (hB : B ≤ w.heap.size) (hl : c.inp.length + c.dat.length ≤ 1048576) (hmost : (c.most : Int) ≤ 9223372036854775807) (hok : c.ok) :
    Calls Tryz.prog 166 #[.pointer (some ⟨b, 0, none⟩)] w fun e w' => e = .returned (.int .i64 (stepM c).2) ∧ Aft B w b p v (stepM c).1 w' := by
  obtain ⟨k1, k2, k3⟩ := hok; obtain ⟨c0, _⟩ := h.at; have hs : stepM c = if c.st = 0 then beginM c else if c.st = 1 then dataM c else if c.st = 2 then closeM c else if c.st = 3 then trailM c else (c, 17) := rfl
  by_cases h0 : c.st = 0
  · have HC := Lib.hid (chunk_begin B b p c v w hm hb h (by omega) hmost (by omega)); rw [if_pos h0] at hs; have HS := Lib.hid hs; rw [h0] at c0; clear hs h; go_enter Tryz.func166, Tryz.ntmps166; go_wp2_with fail; refine HC.out.mono ?_; rintro e w1 ⟨rfl, hx, hk⟩; have HX := Lib.hid (Aft.of hx hk); clear hx hk; go_wp2_with fail; go_ret; rw [HS.out]; exact ⟨rfl, HX.out⟩
  by_cases h1 : c.st = 1
  · have HC := Lib.hid (chunk_data B b p c v w h hB hl (by omega)); rw [if_neg h0, if_pos h1] at hs; have HS := Lib.hid hs; rw [h1] at c0; clear hs h; go_enter Tryz.func166, Tryz.ntmps166; go_wp2_with fail; refine HC.out.mono ?_; rintro e w1 ⟨rfl, hx⟩; have HX := Lib.hid hx; clear hx; go_wp2_with fail; go_ret; rw [HS.out]; exact ⟨rfl, HX.out⟩
  by_cases h2 : c.st = 2
  · have HC := Lib.hid (chunk_close B b p c v w h (by omega)); rw [if_neg h0, if_neg h1, if_pos h2] at hs; have HS := Lib.hid hs; rw [h2] at c0; clear hs h; go_enter Tryz.func166, Tryz.ntmps166; go_wp2_with fail; refine HC.out.mono ?_; rintro e w1 ⟨rfl, hx, hk⟩; have HX := Lib.hid (Aft.of hx hk); clear hx hk; go_wp2_with fail; go_ret; rw [HS.out]; exact ⟨rfl, HX.out⟩
  by_cases h3 : c.st = 3
  · have HC := Lib.hid (chunk_trailer B b p c v w hm hb h (by omega) k2); rw [if_neg h0, if_neg h1, if_neg h2, if_pos h3] at hs; have HS := Lib.hid hs; rw [h3] at c0; clear hs h; go_enter Tryz.func166, Tryz.ntmps166; go_wp2_with fail; refine HC.out.mono ?_; rintro e w1 ⟨rfl, hx, hk⟩; have HX := Lib.hid (Aft.of hx hk); clear hx hk; go_wp2_with fail; go_ret; rw [HS.out]; exact ⟨rfl, HX.out⟩
  · have h4 : c.st = 4 := by omega
    rw [if_neg h0, if_neg h1, if_neg h2, if_neg h3] at hs; have HS := Lib.hid hs; have HX := Lib.hid h; rw [h4] at c0; clear hs h; go_enter Tryz.func166, Tryz.ntmps166; go_wp2_with fail; go_ret; rw [HS.out]; exact ⟨rfl, Aft.of HX.out (Keep.refl _ _)⟩
theorem keep_freeze {S : List Nat} {w w' : World} (h : Keep S w w') {p : Addr} (hp : p.block ∈ S) (n : Nat) : Keep S w (w'.freeze p n) := by
  refine h.trans ?_; unfold World.freeze
  split
  · exact Keep.refl _ _
  · exact ⟨rfl, rfl, rfl, by simp, fun k hk hn => by
      simp only [Array.getElem?_modify]
      rw [if_neg (fun e => hn (by rw [← e]; exact hp))]⟩
set_option maxHeartbeats 8000000 in
set_option maxRecDepth 100000 in
theorem bld_String {B b o : Nat} {T : TypeId} {cs : List Value} {v : Value} {l : List UInt8} {w : World} (h : Bd B w b o T cs v l) :
    Calls Tryz.prog 138 #[.pointer (some ⟨b, o, none⟩)] w fun e w' => e = .returned (.string (S l)) ∧ Keep v.ownBlock.toList w w' := by
  have hown := h.own; unfold Own at hown; rw [rows_bytes] at hown; have hu : Tryz.prog.underlying 204 = some (.pointer 5) := Tryz.underlying204; have mixed : Tryz.prog.follows .mixedOrders = true := by kernel_rfl
  have c0 : w.cell? ⟨b, o + 1, none⟩ = some v := h.blk.get h.buf; have c1 : w.drew.cell? ⟨b, o + 1, none⟩ = some v := c0; rcases hown.2 with ⟨hv, hz⟩ | ⟨g, cap, cur, hv, hbg, hg, hnc, hcm, hcs, htake⟩
  · have hl0 : l = [] := List.eq_nil_of_length_eq_zero hz; subst hv hl0; have hUS := fun (W : World) (q : Option Addr) => Lib.run_unsafeString_none (P := Tryz.prog) W 204 3 9 q
    have hSD : (Builtin.unsafeSliceData_ #[143] 204 #[.slice none 0 0]).run Tryz.prog w.drew = .ok (.pointer none) w.drew := rfl; clear hown h; go_enter Tryz.func138, Tryz.ntmps138; go_wp2_with fail
    go_region_o
    all_goals (go_wp2; go_ret; exact ⟨rfl, (Keep.refl _ _).drew⟩)
  · have hk := hown.cells (g := g); subst hv; by_cases hl0 : l = []
    · subst hl0; have hUS := fun (W : World) (q : Option Addr) => Lib.run_unsafeString_none (P := Tryz.prog) W 204 3 9 q
      by_cases hc0 : cap = 0
      · subst hc0; have hbl := h.blk.lt
        have hSD : (Builtin.unsafeSliceData_ #[143] 204 #[.slice (some ⟨g, 0, none⟩) 0 0]).run Tryz.prog w.drew = .ok (.pointer (some ⟨w.drew.heap.size, 0, none⟩)) (w.drew.alloc (.view ⟨g, 0, none⟩ 5)) :=
          Lib.run_unsafeSliceData_zero w.drew _ _ 5 hu ⟨g, 0, none⟩ 0 (5, cur.size) (by have hg' : w.drew.heap[g]? = some (.cells cur 5 (0, 0)) := hg; simp [World.shape?, hg'])
        have c2 : (w.drew.alloc (.view ⟨g, 0, none⟩ 5)).cell? ⟨b, o + 1, none⟩ = some (.slice (some ⟨g, 0, none⟩) 0 0) := ((((Keep.refl [] w).drew).alloc _).blk h.blk (by simp)).get h.buf; have c3 : (w.alloc (.view ⟨g, 0, none⟩ 5)).drew.cell? ⟨b, o + 1, none⟩ = some (.slice (some ⟨g, 0, none⟩) 0 0) := c2; clear hown h hk; go_enter Tryz.func138, Tryz.ntmps138; go_wp2_with fail
        go_region_o
        all_goals (go_wp2; go_ret; exact ⟨rfl, ((Keep.refl _ _).drew).alloc _⟩)
      · have hSD : (Builtin.unsafeSliceData_ #[143] 204 #[.slice (some ⟨g, 0, none⟩) 0 cap]).run Tryz.prog w.drew = .ok (.pointer (some ⟨g, 0, none⟩)) w.drew :=
          Lib.run_unsafeSliceData_row _ _ _ _ _ _ hc0
        clear hown h hk hc0; go_enter Tryz.func138, Tryz.ntmps138; go_wp2_with fail
        go_region_o
        all_goals (go_wp2; go_ret; exact ⟨rfl, (Keep.refl _ _).drew⟩)
    · have hll : l.length ≠ 0 := by simpa using hl0
      have hSD : (Builtin.unsafeSliceData_ #[143] 204 #[.slice (some ⟨g, 0, none⟩) l.length cap]).run Tryz.prog w.drew = .ok (.pointer (some ⟨g, 0, none⟩)) w.drew :=
        Lib.run_unsafeSliceData_row _ _ _ _ _ _ (by omega)
      have hUS : (Builtin.unsafeString_ #[204, 3] 9 #[.pointer (some ⟨g, 0, none⟩), .int .i64 l.length]).run Tryz.prog w.drew = .ok (.string (S l)) (w.drew.freeze ⟨g, 0, none⟩ l.length) := by
        refine Lib.run_unsafeString_row w.drew 204 3 9 5 hu (by kernel_rfl) g cur.size (by have hg' : w.drew.heap[g]? = some (.cells cur 5 (0, 0)) := hg; simp [World.shape?, hg']) l hl0 (by omega) (by unfold maxLen at hcm; omega) ?_; intro j x hx; have := hk rfl j (.int .u8 x.toNat) (by simp [Lib.byteCells, hx]); exact this
      clear hown h hk hll hl0; go_enter Tryz.func138, Tryz.ntmps138; go_wp2_with fail
      go_region_o
      all_goals (go_wp2; go_ret; exact ⟨rfl, keep_freeze ((Keep.refl _ _).drew) (by simp [Value.ownBlock]) _⟩)
set_option maxHeartbeats 2000000 in
set_option maxRecDepth 100000 in
theorem bld_Reset {b o : Nat} {T : TypeId} {cs : List Value} {w : World} (h : Blk w b T cs) (ho : o + 1 < cs.length) :
    Calls Tryz.prog 236 #[.pointer (some ⟨b, o, none⟩)] w fun e w' => e = .returned (.tuple #[]) ∧ Blk w' b T ((cs.set o (.pointer none)).set (o + 1) (.slice none 0 0)) ∧ Keep [b] w w' := by
  have _take := 220; clear _take; obtain ⟨x, hx⟩ : ∃ x, cs[o]? = some x := ⟨_, List.getElem?_eq_getElem (by omega)⟩
  obtain ⟨y, hy⟩ : ∃ y, cs[o + 1]? = some y := ⟨_, List.getElem?_eq_getElem (by omega)⟩
  have c0 := h.get hx; have f0 := h.frozen o; have h1 := h.set o (.pointer none); have c1 := h1.get (k := o + 1) (v := y) (by rw [List.getElem?_set_ne (by omega)]; exact hy); have f1 := h1.frozen (o + 1); have H := Lib.hid (h1.set (o + 1) (.slice none 0 0)); clear h h1; go_enter Tryz.func236, Tryz.ntmps236; go_wp2_with fail; go_end0; exact ⟨rfl, H.out, ((Keep.refl _ _).setCell _ _ (by simp)).setCell _ _ (by simp)⟩
def ck0 (most : Int) : Ck := ⟨0, 0, (max most 0).toNat, 0, [], [], 0⟩
set_option maxHeartbeats 2000000 in
set_option maxRecDepth 100000 in
theorem chunk_New (B : Nat) (m : Int) (w : World) (_hB : B ≤ w.heap.size) :
    Calls Tryz.prog 116 #[.int .i64 m] w fun e w' => ∃ b, e = .returned (.pointer (some ⟨b, 0, none⟩)) ∧ w.heap.size ≤ b ∧ b < w'.heap.size ∧ Ct B w' b [] (ck0 m) (.slice none 0 0) ∧ Keep [] w w' := by
  have hmx : max m 0 = (((max m 0).toNat : Nat) : Int) := by omega
  have hbk := Blk.newA w (ckC (ck0 m) (.pointer none) (.slice none 0 0)).toArray 200; have H := Lib.hid hbk; have HM := Lib.hid hmx; have hmx2 : max m 0 = ((ck0 m).most : Int) := hmx; generalize hmm : (ck0 m).most = k at *; clear hbk hmx; go_enter Tryz.func116, Tryz.ntmps116; go_wp2_with fail; go_ret; refine ⟨w.heap.size, rfl, Nat.le_refl _, by simp, ⟨.pointer none, [], ⟨?_, .inl rfl, rfl, Own.nil _ _ _ _ _, by simp [Value.ownBlock]⟩, rfl⟩, (Keep.refl [] w).alloc _⟩; have := H.out; subst hmm; exact this
set_option maxHeartbeats 1000000 in
set_option maxRecDepth 100000 in
theorem chunk_Done {B b : Nat} {p : List UInt8} {c : Ck} {v : Value} {w : World} (h : Ct B w b p c v) (_ : c.st ≤ 4) :
    Calls Tryz.prog 119 #[.pointer (some ⟨b, 0, none⟩)] w fun e w' => e = .returned (.bool (decide (c.st = 4))) ∧ w = w' := by
  obtain ⟨c0, _⟩ := h.at; clear h; by_cases h4 : c.st = 4
  · rw [h4] at c0; go_enter Tryz.func119, Tryz.ntmps119; go_wp2_with fail; go_ret; exact ⟨by simp [h4], rfl⟩
  · have h4' := (nat_ne (show c.st ≠ 4 from h4)).1; have h5 := (int_ne (show ((c.st : Nat) : Int) ≠ 4 by omega)).1; have h6 : decide (c.st = 4) = false := by simp [h4]
    have HF := Lib.hid h6; generalize c.st = st at *; go_enter Tryz.func119, Tryz.ntmps119; go_wp2_with fail; go_ret; exact ⟨ret_bool (by simp [h4]), rfl⟩
set_option maxHeartbeats 1000000 in
set_option maxRecDepth 100000 in
theorem chunk_Rest {B b : Nat} {p : List UInt8} {c : Ck} {v : Value} {w : World} (h : Ct B w b p c v) (hs : c.st ≤ 4) :
    Calls Tryz.prog 120 #[.pointer (some ⟨b, 0, none⟩)] w fun e w' => e = .returned (.string (S (if c.st = 4 then c.inp else []))) ∧ w = w' := by
  have HD := Lib.hid (chunk_Done h hs); obtain ⟨_, _, _, _, c4, _, _⟩ := h.at; clear h; by_cases h4 : c.st = 4
  · rw [decide_eq_true h4] at HD; rw [if_pos h4]; go_enter Tryz.func120, Tryz.ntmps120; go_wp2_with fail; refine HD.out.mono ?_; rintro e w1 ⟨rfl, rfl⟩; go_wp2_with fail; go_ret; exact ⟨rfl, rfl⟩
  · rw [decide_eq_false h4] at HD; rw [if_neg h4]; go_enter Tryz.func120, Tryz.ntmps120; go_wp2_with fail; refine HD.out.mono ?_; rintro e w1 ⟨rfl, rfl⟩; go_wp2_with fail; go_ret; exact ⟨rfl, rfl⟩
set_option maxHeartbeats 2000000 in
set_option maxRecDepth 100000 in
theorem chunk_Take {B b : Nat} {p : List UInt8} {c : Ck} {v : Value} {w : World} (h : Ct B w b p c v) :
    Calls Tryz.prog 220 #[.pointer (some ⟨b, 0, none⟩)] w fun e w' => ∃ o, e = .returned (.string (S o)) ∧ c.dat = p ++ o ∧ Ct B w' b c.dat c (.slice none 0 0) ∧ Keep (b :: v.ownBlock.toList) w w' := by
  obtain ⟨ad, o, hb, hd⟩ := h; have HS := Lib.hid (bld_String hb); have HB := Lib.hid hb; have HD := Lib.hid hd; clear hb hd; go_enter Tryz.func220, Tryz.ntmps220; go_wp2_with fail; refine HS.out.mono ?_; rintro e w1 ⟨rfl, k1⟩
  have hb1 : Blk w1 b 200 (ckC c ad v) := k1.blk HB.out.blk (by
    intro hh; have := HB.out.ne; simp at hh; exact this hh)
  have HR := Lib.hid (bld_Reset (o := 5) hb1 (show 5 + 1 < 9 by decide)); have K1 := Lib.hid (k1.mono (S' := b :: v.ownBlock.toList) (fun x hx _ => List.mem_cons_of_mem _ hx)); clear k1 hb1; go_wp2_with fail; refine HR.out.mono ?_; rintro e w2 ⟨rfl, hb2, k2⟩; have HB2 := Lib.hid hb2; have K2 := Lib.hid (K1.out.trans' k2 (fun x hx _ => by simp at hx; simp [hx])); clear hb2 k2; go_wp2_with fail; go_ret; refine ⟨o, rfl, HD.out, ⟨.pointer none, [], ⟨HB2.out, .inl rfl, rfl, Own.nil _ _ _ _ _, by simp [Value.ownBlock]⟩, by simp⟩, K2.out⟩
def AddR (c : Ck) (s : List UInt8) (c' : Ck) : Prop := if c.err ≠ 0 then c' = c else ∃ d e, Runs (c.add s) d e ∧ c' = { d with err := if e = 17 then 0 else e }
theorem add_ok {c : Ck} (h : c.ok) (s : List UInt8) : (c.add s).ok := h
set_option maxHeartbeats 2000000 in
set_option maxRecDepth 100000 in
theorem chunk_Add (B b : Nat) (p s : List UInt8) (c c' : Ck) (v : Value) (w : World) (hm : ML w) (hb : 1 ≠ b) (h : Ct B w b p c v) (hB : B ≤ w.heap.size) (hbig : 1 < B) (hl : c.inp.length + c.dat.length + s.length ≤ 1048576) (hmost : (c.most : Int) ≤ 9223372036854775807) (hok : c.err = 0 → c.ok) (ha : AddR c s c') :
    Calls Tryz.prog 118 #[.pointer (some ⟨b, 0, none⟩), .string (S s)] w fun e w' => e = .returned (.int .i64 c'.err) ∧ Aft B w b p v c' w' := by
  obtain ⟨_, _, _, _, c4, _, c8⟩ := h.at; unfold AddR at ha; by_cases he : c.err = 0
  · rw [if_neg (by simp [he])] at ha; obtain ⟨d, e0, hr, hc'⟩ := ha; have s1 := S_size c.inp; have s2 := S_size s; have hcat := S_append c.inp s; have lc : (c.inp ++ s).length = c.inp.length + s.length := by simp
    have f4 := h.free 4; have hko := hok he; have hro := runs_ok hr (add_ok hko s); have hderr : d.err = 0 := hro.2.2.1.trans he; have H1 := Lib.hid (h.set 4 (.string (S (c.inp ++ s))) (c' := c.add s) (fun _ => rfl) rfl); have K1 := Lib.hid ((Keep.refl [b] w).setCell ⟨b, 4, none⟩ (.string (S (c.inp ++ s))) (by simp)); have HR := Lib.hid hr; have HM := Lib.hid hm; rw [he] at c8; clear h hr hok hm hro; go_enter Tryz.func118, Tryz.ntmps118; go_wp2_with fail; go_step3; go_wp2_with fail; go_step3; go_wp2_with fail; generalize hw1 : w.setCell ⟨b, 4, none⟩ (.string (S (c.inp ++ s))) = w1 at *; (try rw [hw1]); clear hw1 c4 c8 f4
    go_loopg [5] (c.add s).mu (fun g ev wr => ∃ cur : Ck, g = cur.mu ∧ Hid (Aft B w b p v cur wr) ∧ Hid (Runs cur d e0) ∧ Hid (cur.ok) ∧ Hid (cur.inp.length + cur.dat.length ≤ 1048576 ∧ cur.most = c.most ∧ cur.err = 0))
    case atStart => exact ⟨c.add s, rfl, Lib.hid (Aft.of H1.out K1.out), HR, Lib.hid hko, Lib.hid ⟨by show (c.inp ++ s).length + c.dat.length ≤ _; omega, rfl, he⟩⟩
    case round =>
      obtain ⟨cur, hg, HA, HRu, HK, HL⟩ := hrel; obtain ⟨v1, hct, hk, hv⟩ := HA.out; obtain ⟨hl1, hmo, hce⟩ := HL.out; have hso := step_ok HK.out
      have hS := chunk_step B b p cur v1 wr (by
        obtain ⟨x, hx⟩ := HM.out
        exact (ML.keep ⟨x, hx⟩ hk (by
          simp only [List.mem_cons, not_or]; refine ⟨hb, fun hh => ?_⟩; have : v.ownBlock = some 1 := by simpa using hh
          have hlt : B ≤ 1 := by
            obtain ⟨ad, o, hbd, _⟩ := H1.out; exact (hbd.own.lt _ this).1
          omega))) hb hct (Nat.le_trans hB hk.size) hl1 (by rw [hmo]; exact hmost) HK.out
      have HS := Lib.hid hS; have HCt := Lib.hid (And.intro hct (And.intro hk hv))
      have HRc := Lib.hid (show (stepM cur).2 = 0 ∧ Runs (stepM cur).1 d e0 ∨ (stepM cur).2 ≠ 0 ∧ d = (stepM cur).1 ∧ e0 = (stepM cur).2 by
        cases HRu.out with
        | stop hh => exact .inr ⟨hh, rfl, rfl⟩
        | more hh hh2 => exact .inl ⟨hh, hh2⟩)
      have HSo := Lib.hid hso; generalize hst : stepM cur = sr at HS HRc HSo; obtain ⟨nx, er⟩ := sr; dsimp only at HS HRc HSo; clear hso hS hct hk hv HA HRu hst hl1 hmo hce; by_cases h0 : er = 0
      · subst h0
        have hR2 : Runs nx d e0 := by
          rcases HRc.out with hh | hh
          · exact hh.2
          · exact absurd rfl hh.1
        have HR2 := Lib.hid hR2; clear hR2; go_wp2_with fail; refine HS.out.mono ?_; rintro e w2 ⟨rfl, v2, a1, a2, a3⟩; have HA2 := Lib.hid (Aft.trans HCt.out.1 HCt.out.2.1 HCt.out.2.2 a1 a2 a3); clear a1 a2 a3; go_wp2_with fail
        go_roundg nx.mu
        case measure => rw [hg]; exact HSo.out.1 (by first | rfl | trivial)
        case rel =>
          obtain ⟨q1, q2, q3, q4, q5, _⟩ := HSo.out; exact ⟨nx, rfl, HA2, HR2, Lib.hid (q2 (.inl (by first | rfl | trivial))), Lib.hid ⟨Nat.le_trans q5 HL.out.1, q3.trans HL.out.2.1, q4.trans HL.out.2.2⟩⟩
      · have hde : d = nx ∧ e0 = er := by
          rcases HRc.out with hh | hh
          · exact absurd hh.1 h0
          · exact hh.2
        obtain ⟨rfl, rfl⟩ := hde; by_cases h17 : e0 = 17
        · subst h17; have HC := Lib.hid (show c' = d by rw [hc', if_pos rfl, ← hderr]); clear hc'; go_wp2_with fail; refine HS.out.mono ?_; rintro e w2 ⟨rfl, v2, a1, a2, a3⟩; have HA2 := Lib.hid (Aft.trans HCt.out.1 HCt.out.2.1 HCt.out.2.2 a1 a2 a3); obtain ⟨_, _, _, _, _, _, e8⟩ := a1.at; clear a1 a2 a3; go_wp2_with fail; rw [Exit.noGoto_ret]; go_ret; rw [HC.out]; exact ⟨by rw [hderr]; rfl, HA2.out⟩
        · have q1 := (int_ne h0).1; have q2 := (int_ne h17).1; have HC := Lib.hid (show c' = { d with err := e0 } by rw [hc', if_neg h17]); clear hc' h17 h0; go_wp2_with fail; refine HS.out.mono ?_; rintro e w2 ⟨rfl, v2, a1, a2, a3⟩; have HA2 := Lib.hid (Aft.trans HCt.out.1 HCt.out.2.1 HCt.out.2.2 a1 a2 a3); obtain ⟨_, _, _, _, _, _, e8⟩ := a1.at; have g8 := a1.free 8; clear a1 a2 a3; go_wp2_with fail; rw [Exit.noGoto_ret]; go_ret; obtain ⟨v3, a1, a2, a3⟩ := HA2.out; rw [HC.out]; exact ⟨rfl, v3, a1.set 8 _ (fun _ => rfl) rfl, a2.setCell _ _ (by simp), a3⟩
  · rw [if_pos he] at ha; have q1 := (int_ne he).1; have q2 := (int_ne he).2; have H := Lib.hid h; subst ha; clear h; go_enter Tryz.func118, Tryz.ntmps118; go_wp2_with fail; go_step3; go_wp2_with fail; rw [Exit.noGoto_ret]; go_ret; exact ⟨rfl, Aft.of H.out (Keep.refl _ _)⟩
def runF : Nat → Ck → Ck × Int
  | 0, c => stepM c
  | n + 1, c => if (stepM c).2 = 0 then runF n (stepM c).1 else stepM c
theorem runF_runs : ∀ (n : Nat) (c : Ck), c.ok → c.mu ≤ n → Runs c (runF n c).1 (runF n c).2
  | n, c, h, hn => by
    by_cases h0 : (stepM c).2 = 0
    · have hs := step_ok h; have hm := hs.1 h0
      match n, hn with
      | 0, hn => omega
      | n + 1, hn =>
        have hr := runF_runs n (stepM c).1 (hs.2.1 (.inl h0)) (by omega); rw [runF, if_pos h0]; exact .more h0 hr
    · match n, hn with
      | 0, hn => rw [runF]; exact .stop h0
      | n + 1, hn => rw [runF, if_neg h0]; exact .stop h0
def addC (c : Ck) (s : List UInt8) : Ck := if c.err ≠ 0 then c else { (runF (c.add s).mu (c.add s)).1 with err := if (runF (c.add s).mu (c.add s)).2 = 17 then 0 else (runF (c.add s).mu (c.add s)).2 }
theorem addC_R {c : Ck} {s : List UInt8} (h : c.err = 0 → c.ok) : AddR c s (addC c s) := by
  unfold AddR addC; by_cases h0 : c.err = 0
  · rw [if_neg (by simp [h0]), if_neg (by simp [h0])]; exact ⟨_, _, runF_runs _ _ (add_ok (h h0) s) (Nat.le_refl _), rfl⟩
  · rw [if_pos h0, if_pos h0]
theorem ML.keepB {B : Nat} {w w' : World} {X : List Nat} (hm : ML w) (hbig : 1 < B) (k : Keep X w w') (hX : ∀ x ∈ X, B ≤ x) : ML w' := hm.keep k (fun hh => absurd (hX _ hh) (by omega))
theorem ML.lt {w : World} (hm : ML w) : 1 < w.heap.size := let ⟨_, h⟩ := hm; World.block_lt_of_cell? w _ h
theorem Keep.above {w0 w w' : World} {X : List Nat} (h : Keep [] w0 w) (k : Keep X w w') (hX : ∀ x ∈ X, w0.heap.size ≤ x) : Keep [] w0 w' := h.trans' k (fun x hx hl => absurd (hX x hx) (by omega))
end Go.Proofs.YtlhnjkekjbbhcaaGreatDoor
