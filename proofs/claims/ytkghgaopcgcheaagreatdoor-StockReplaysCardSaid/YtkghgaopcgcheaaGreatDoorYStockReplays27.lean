/- Parts of the proof of StockReplays, in order. No conditions but those that each theorem states. -/
import Derived.Test.YtkghgaopcgcheaaGreatDoorYStockReplays0
import Derived.Deep.RegionHeld3
import Derived.Deep.Cut
import Derived.Deep.DeepCutAuto
import Derived.Deep.LoopGhost
import Derived.Deep.AppendLies
import Derived.Deep.RegionLaw
import Derived.Lib.ItoaNum
import Derived.Lib.SlTrimSet
import Derived.Lib.SlBytesConst
import Derived.WalkMore
import Derived.Test.YtkghgaopcgcheaaGreatDoorYStockReplays26
set_option maxRecDepth 100000
set_option maxHeartbeats 16000000
set_option linter.unusedSimpArgs false
set_option linter.unusedVariables false
namespace Go.Proofs.YtkghgaopcgcheaaGreatDoor
open Go.RowKit Go.Maps
theorem stock_Replay (L : List Slp) (v : Value) (w : World) (hs : Sl Slp.cells 38 w v L) (hin : ∀ x ∈ L, slipIn x) (hl : L.length ≤ 1000000) :
    Calls Tryz.prog 6 #[v] w fun e w' => ∃ v1 v2, e = .returned (.tuple #[v1, v2]) ∧ Own Tik.cells 38 w.heap.size 51 w' v1 (rep L).1 ∧ Own Jar.cells 35 w.heap.size 63 w' v2 (rep L).2 ∧ Keep [] w w' := by
  have HRP := Lib.hid (stock_replay L v 1099511627776 w hs hin hl (by decide) (by decide)); obtain ⟨aa, ca, rfl, hcap⟩ := hs.shape; clear hs hin hcap; go_enter Tryz.func6, Tryz.ntmps6; go_wp2_with fail; refine HRP.out.mono ?_; rintro e w1 ⟨t, r, Y, rfl, hst, _, k1⟩; have H1 := Lib.hid (And.intro hst k1); have b2 := Blk.newA w1 #[.pointer (some ⟨t, 0, none⟩), .pointer (some ⟨r, 0, none⟩)] 83; have k2 := (Keep.refl [] w1).alloc (.cells #[.pointer (some ⟨t, 0, none⟩), .pointer (some ⟨r, 0, none⟩)] 83); obtain ⟨m, hm⟩ : ∃ m, w1.heap.size = m := ⟨_, rfl⟩
  rw [hm] at b2; clear hst k1 HRP
  go_upto_region 4 with fail
  (try simp only [hm]); generalize w1.alloc (.cells #[.pointer (some ⟨t, 0, none⟩), .pointer (some ⟨r, 0, none⟩)] 83) = w2 at b2 k2 ⊢; have c0 := b2.get (k := 0) rfl; have c1 := b2.get (k := 1) rfl; have KD := Lib.hid ((Keep.refl [] w2).drew); have H2 := Lib.hid (show (∀ w', Keep [] w2 w' → St Y w' t r 1099511627776 (rep L).1 (rep L).2) ∧ Keep [] w w2 ∧ Blk w2 m 83 [.pointer (some ⟨t, 0, none⟩), .pointer (some ⟨r, 0, none⟩)] from ⟨fun w' k => (H1.out.1.keep0 k2).keep0 k, H1.out.2.trans k2, b2⟩); clear b2 k2 H1 hm
  go_region_with (first | (go_at_call 37; refine ((H2.out.1 _ KD.out).tiks).mono ?_; rintro e w3 ⟨v1, rfl, o1, k3⟩; have H3 := Lib.hid (show Own Tik.cells 38 w.heap.size 51 w3 v1 (rep L).1 ∧ Keep [] w2 w3 from ⟨o1.lower (H2.out.2.1.trans KD.out).size, KD.out.trans k3⟩); clear o1 k3; have d1 := (H3.out.2.blk H2.out.2.2 (by simp)).get (k := 1) rfl) | (go_at_call 38; refine ((H2.out.1 _ H3.out.2).jars).mono ?_; rintro e w4 ⟨v2, rfl, o2, k4⟩; have H4 := Lib.hid (show Own Jar.cells 35 w.heap.size 63 w4 v2 (rep L).2 ∧ Own Tik.cells 38 w.heap.size 51 w4 v1 (rep L).1 ∧ Keep [] w w4 from ⟨o2.lower (H2.out.2.1.trans H3.out.2).size, H3.out.1.keep0 k4, (H2.out.2.1.trans H3.out.2).trans k4⟩); clear o2 k4) | fail)
  all_goals
    go_wp2_with fail; go_ret2; exact ⟨_, _, rfl, H4.out.2.1, H4.out.1, H4.out.2.2⟩
def Sk (X : List Nat) (w : World) (s d t r l b : Nat) (B : Int) (T : List Tik) (R : List Jar) (K : Dsk) (n sure : Nat) : Prop :=
  ∃ Y C, X = Y ++ l :: C ∧ Blk w s 100 [.pointer (some ⟨t, 0, none⟩), .pointer (some ⟨r, 0, none⟩), .pointer (some ⟨l, 0, none⟩), .pointer (some ⟨b, 0, none⟩)] ∧
    St Y w t r B T R ∧ Lg C w l d K n sure false ∧ Ld w b d ∧ s ∉ X ∧ b ∉ X ∧ (∀ x ∈ Y, x ∉ l :: C) ∧ (∀ x ∈ X, x < w.heap.size) ∧ GP X w
section
variable {X : List Nat} {w : World} {s d t r l b : Nat} {B : Int} {T : List Tik} {R : List Jar} {K : Dsk} {n sure : Nat}
theorem Sk.keep {Z : List Nat} {w' : World} (h : Sk X w s d t r l b B T R K n sure) (k : Keep Z w w') (hX : ∀ x ∈ X, x ∉ Z) (hs : s ∉ Z) (hb : b ∉ Z) (hg : Glob w') : Sk X w' s d t r l b B T R K n sure := by
  obtain ⟨Y, C, rfl, h1, h2, h3, h4, h5, h6, h7, h8, h9⟩ := h; refine ⟨Y, C, rfl, k.blk h1 hs, h2.keep k (fun x hx => hX x (List.mem_append_left _ hx)), ⟨h3.1.keep k (fun x hx => hX x (by simp [hx])), ?_, h3.2.2⟩, k.blk h4 hb, h5, h6, h7, fun x hx => Nat.lt_of_lt_of_le (h8 x hx) k.size, hg, h9.2⟩; obtain ⟨z, hz⟩ := h3.2.1; exact ⟨z, k.blk hz (hX l (by simp))⟩
theorem Sk.keep0 {w' : World} (h : Sk X w s d t r l b B T R K n sure) (k : Keep [] w w') : Sk X w' s d t r l b B T R K n sure :=
  h.keep k (by simp) (by simp) (by simp) (by obtain ⟨Y, C, rfl, h1, h2, h3, h4, h5, h6, h7, h8, h9⟩ := h; exact h9.1.keep0 k)
theorem Sk.cells (h : Sk X w s d t r l b B T R K n sure) : w.cell? ⟨s, 0, none⟩ = some (.pointer (some ⟨t, 0, none⟩)) ∧ w.cell? ⟨s, 1, none⟩ = some (.pointer (some ⟨r, 0, none⟩)) ∧ w.cell? ⟨s, 2, none⟩ = some (.pointer (some ⟨l, 0, none⟩)) ∧ w.cell? ⟨s, 3, none⟩ = some (.pointer (some ⟨b, 0, none⟩)) := by
  obtain ⟨Y, C, rfl, h1, h2, h3, h4, h5, h6, h7, h8, h9⟩ := h; exact ⟨h1.get rfl, h1.get rfl, h1.get rfl, h1.get rfl⟩
theorem Sk.gp (h : Sk X w s d t r l b B T R K n sure) : GP X w := by
  obtain ⟨Y, C, rfl, h1, h2, h3, h4, h5, h6, h7, h8, h9⟩ := h; exact h9
theorem Sk.lt (h : Sk X w s d t r l b B T R K n sure) : ∀ x ∈ X, x < w.heap.size := by
  obtain ⟨Y, C, rfl, h1, h2, h3, h4, h5, h6, h7, h8, h9⟩ := h; exact h8
theorem Sk.apart (h : Sk X w s d t r l b B T R K n sure) : s ∉ X ∧ b ∉ X ∧ s < w.heap.size ∧ b < w.heap.size := by
  obtain ⟨Y, C, rfl, h1, h2, h3, h4, h5, h6, h7, h8, h9⟩ := h; exact ⟨h5, h6, h1.lt, h4.lt⟩
theorem Sk.st (h : Sk X w s d t r l b B T R K n sure) : ∃ Y, St Y w t r B T R := by
  obtain ⟨Y, C, rfl, h1, h2, h3, h4, h5, h6, h7, h8, h9⟩ := h; exact ⟨Y, h2⟩
theorem Sk.ld (h : Sk X w s d t r l b B T R K n sure) : Ld w b d := by
  obtain ⟨Y, C, rfl, h1, h2, h3, h4, h5, h6, h7, h8, h9⟩ := h; exact h4
theorem Sk.onS {f : FuncId} {args : Array Value} {Q : Ending → Prop} {T' : List Tik} {R' : List Jar} (h : Sk X w s d t r l b B T R K n sure)
    (hc : ∀ Y, St Y w t r B T R → Calls Tryz.prog f args w fun e w' => Q e ∧ ∃ Y', St Y' w' t r B T' R' ∧ Grow Y w Y' w') :
    Calls Tryz.prog f args w fun e w' => Q e ∧ ∃ X', Sk X' w' s d t r l b B T' R' K n sure ∧ Grow X w X' w' := by
  obtain ⟨Y, C, rfl, h1, h2, h3, h4, h5, h6, h7, h8, h9⟩ := h; refine (hc Y h2).mono ?_; rintro e w' ⟨hq, Y', s', g'⟩
  have hgY : Grow (Y ++ l :: C) w (Y' ++ l :: C) w' := ⟨g'.1.mono (fun x hx _ => List.mem_append_left _ hx), fun x hx => by
    rcases List.mem_append.1 hx with hx | hx
    · exact (g'.2 x hx).imp (List.mem_append_left _) id
    · exact .inl (List.mem_append_right _ hx)⟩
  have hYlt : ∀ x ∈ Y', x < w'.heap.size := by obtain ⟨A, C, rfl, _, _, _, h4⟩ := s'; exact h4
  refine ⟨hq, Y' ++ l :: C, ⟨Y', C, rfl, g'.1.blk h1 (fun hm => h5 (List.mem_append_left _ hm)), s', ⟨h3.1.keep g'.1 (fun x hx hm => h7 x hm (by simp [hx])), ?_, h3.2.2⟩, g'.1.blk h4 (fun hm => h6 (List.mem_append_left _ hm)), hgY.out' h5 h1.lt, hgY.out' h6 h4.lt, fun x hx hm => ?_, fun x hx => ?_, h9.grow hgY⟩, hgY⟩
  · obtain ⟨z, hz⟩ := h3.2.1; exact ⟨z, g'.1.blk hz (fun hm => h7 l hm (by simp))⟩
  · rcases g'.2 x hx with e | e
    · exact h7 x e hm
    · have := h8 x (List.mem_append_right _ hm); omega
  · rcases List.mem_append.1 hx with hx | hx
    · exact hYlt x hx
    · exact Nat.lt_of_lt_of_le (h8 x (List.mem_append_right _ hx)) g'.1.size
theorem Sk.onL' {C C' : List Nat} {Y : List Nat} {w' : World} {K' : Dsk} {n' sure' : Nat} (h1 : Blk w s 100 [.pointer (some ⟨t, 0, none⟩), .pointer (some ⟨r, 0, none⟩), .pointer (some ⟨l, 0, none⟩), .pointer (some ⟨b, 0, none⟩)])
    (h2 : St Y w t r B T R) (h4 : Ld w b d) (h5 : s ∉ Y ++ l :: C) (h6 : b ∉ Y ++ l :: C) (h7 : ∀ x ∈ Y, x ∉ l :: C) (h8 : ∀ x ∈ Y ++ l :: C, x < w.heap.size) (h9 : GP (Y ++ l :: C) w) (hl : Lg C' w' l d K' n' sure' false) (g : Grow (l :: C) w (l :: C') w') :
    ∃ X', Sk X' w' s d t r l b B T R K' n' sure' ∧ Grow (Y ++ l :: C) w X' w' := by
  have gc : Grow (l :: C) w (l :: cutS C' w') w' := ⟨g.1, fun x hx => g.2 x (by
    rcases List.mem_cons.1 hx with rfl | hx
    · exact List.mem_cons_self
    · exact List.mem_cons_of_mem _ (mem_cutS.1 hx).1)⟩
  have hG : Grow (Y ++ l :: C) w (Y ++ l :: cutS C' w') w' := ⟨gc.1.mono (fun x hx _ => List.mem_append_right _ hx), fun x hx => by
    rcases List.mem_append.1 hx with hx | hx
    · exact .inl (List.mem_append_left _ hx)
    · exact (gc.2 x hx).imp (List.mem_append_right _) id⟩
  have hll : l < w'.heap.size := by obtain ⟨z, hz⟩ := hl.2.1; exact hz.lt
  refine ⟨_, ⟨Y, cutS C' w', rfl, g.1.blk h1 (fun hm => h5 (List.mem_append_right _ hm)), h2.keep g.1 h7, hl.cut, g.1.blk h4 (fun hm => h6 (List.mem_append_right _ hm)), hG.out' h5 h1.lt, hG.out' h6 h4.lt, fun x hx hm => ?_, fun x hx => ?_, h9.grow hG⟩, hG⟩
  · rcases gc.2 x hm with e | e
    · exact h7 x hx e
    · have := h8 x (List.mem_append_left _ hx); omega
  · rcases List.mem_append.1 hx with hx | hx
    · exact Nat.lt_of_lt_of_le (h8 x (List.mem_append_left _ hx)) g.1.size
    · rcases List.mem_cons.1 hx with rfl | hx
      · exact hll
      · exact (mem_cutS.1 hx).2
theorem Sk.onL {f : FuncId} {args : Array Value} {Q : Ending → Prop} {K' : Dsk} {n' sure' : Nat} (h : Sk X w s d t r l b B T R K n sure)
    (hc : ∀ C, Lg C w l d K n sure false → GP C w → Calls Tryz.prog f args w fun e w' => Q e ∧ ∃ C', Lg C' w' l d K' n' sure' false ∧ Grow (l :: C) w (l :: C') w') :
    Calls Tryz.prog f args w fun e w' => Q e ∧ ∃ X', Sk X' w' s d t r l b B T R K' n' sure' ∧ Grow X w X' w' := by
  obtain ⟨Y, C, rfl, h1, h2, h3, h4, h5, h6, h7, h8, h9⟩ := h; refine (hc C h3 ⟨h9.1, fun x hx => h9.2 x (by simp [hx])⟩).mono ?_; rintro e w' ⟨hq, C', l', g'⟩; exact ⟨hq, Sk.onL' h1 h2 h4 h5 h6 h7 h8 h9 l' g'⟩
theorem Sk.onD {f : FuncId} {args : Array Value} {Q : Ending → Prop} {K' : Dsk} (h : Sk X w s d t r l b B T R K n sure)
    (hc : ∀ C, Pk C w d K → GP C w → b ∉ C → Calls Tryz.prog f args w fun e w' => Q e ∧ ∃ C', Pk C' w' d K' ∧ Grow C w C' w') :
    Calls Tryz.prog f args w fun e w' => Q e ∧ ∃ X', Sk X' w' s d t r l b B T R K' n sure ∧ Grow X w X' w' := by
  obtain ⟨Y, C, rfl, h1, h2, h3, h4, h5, h6, h7, h8, h9⟩ := h; refine (hc C h3.1 ⟨h9.1, fun x hx => h9.2 x (by simp [hx])⟩ (fun hm => h6 (by simp [hm]))).mono ?_; rintro e w' ⟨hq, C', p', g'⟩; have ho := h3.op p' g'; exact ⟨hq, Sk.onL' h1 h2 h4 h5 h6 h7 h8 h9 ho.1 ho.2⟩
end
end Go.Proofs.YtkghgaopcgcheaaGreatDoor
namespace Go.Proofs.YtkghgaopcgcheaaGreatDoor
open Go.RowKit Go.Maps
section
variable {X : List Nat} {s d t r l b : Nat} {B : Int} {T : List Tik} {R : List Jar}
def writeD (x : Slp) (sure : Bool) (K : Dsk) : Option Dsk := (appendD dN (slipW x) K).bind fun K1 => if sure then syncD dN K1 else some K1
theorem writeD_off {x : Slp} {sure : Bool} {K K' : Dsk} (h : writeD x sure K = some K') : K'.off = K.off := by
  unfold writeD at h; obtain ⟨K1, h1, h2⟩ := Option.bind_eq_some_iff.1 h; have := appendD_off h1
  split at h2
  · rw [syncD_off h2, this]
  · injection h2 with h2; rw [← h2, this]
theorem stock_write (x : Slp) (XC : List Value) (hx : x.cells = XC) (sure : Bool) (K K2 : Dsk) (nn su : Nat) (w : World) (h : Sk X w s d t r l b B T R K nn su) (hg : goodS x = true) (hn : nn ≤ 100000) (hs : su ≤ nn) (hc : writeD x sure K = some K2) :
    Calls Tryz.prog 100 #[.pointer (some ⟨s, 0, none⟩), .agg XC.toArray, .bool sure] w fun e w' => e = .returned (.int .i64 0) ∧ ∃ X', Sk X' w' s d t r l b B T R K2 (nn + 1) (if sure then nn + 1 else su) ∧ Grow X w X' w' := by
  unfold writeD at hc; obtain ⟨K1, hc1, hc2⟩ := Option.bind_eq_some_iff.1 hc; clear hc; obtain ⟨n0, hn0⟩ : ∃ n, w.heap.size = n := ⟨_, rfl⟩
  have k1 := (Keep.refl [] w).alloc (.cells XC.toArray 27); have b1 := Blk.new w XC 27; rw [hn0] at b1; have HXL := Lib.hid (show XC.length = 38 by rw [← hx]; exact Slp.cells_length x); have hap := h.apart; have hlt := h.lt; go_enter Tryz.func100, Tryz.ntmps100
  go_upto_region 1 with fail
  (try simp only [hn0]); generalize w.alloc (.cells XC.toArray 27) = w1 at k1 b1 ⊢; have h1 := h.keep0 k1; have HSK := Lib.hid (fun w' (k : Keep [] w1 w') => h1.keep0 k); have HSI := Lib.hid (show ∃ C, Lg C w1 l d K nn su false from by obtain ⟨Y, C, _, _, _, h3, _⟩ := h1; exact ⟨C, h3⟩)
  have HC := Lib.hid (show ∀ w', Keep X w1 w' → w'.cell? ⟨s, 2, none⟩ = some (.pointer (some ⟨l, 0, none⟩)) ∧ w'.rangeAt n0 0 XC from fun w' k =>
    ⟨by obtain ⟨Y, C, _, hb, _⟩ := h1; exact (k.blk hb hap.1).get rfl, (k.blk b1 (fun hm => by have := hlt n0 hm; omega)).rng⟩)
  have HAD := Lib.hid (fun (C : List Nat) w' (hl : Lg C w' l d K nn su false) (hg' : GP C w') => show Calls Tryz.prog 155 #[.pointer (some ⟨l, 0, none⟩), .agg XC.toArray] w' fun e w'' => e = .returned (.int .i64 0) ∧ ∃ S', Lg S' w'' l d K1 (nn + 1) su false ∧ Grow (l :: C) w' (l :: S') w'' from diary_Add l d nn su K K1 x XC hx w' hl (slipIn_good hg) hg hg'.1.1 (by omega) hc1); have KD := Lib.hid ((Keep.refl [] w1).drew); have KW := Lib.hid k1; have c2 := (HC.out w1 (Keep.refl _ _)).1; clear h h1 k1 b1 hx hap hlt hg hc1 hn0; go_wp2_with fail; obtain ⟨C0, hl0⟩ := HSI.out; refine (diary_Sick l d nn su false K w1 hl0).mono ?_; rintro e we ⟨rfl, rfl⟩; clear hl0 c2
  go_upto_region 2 with fail
  refine wp_region_held_drew (S := fun w' => Keep X w1 w') (by kernel_rfl) ((KD.out.mono (by simp))) (fun hHeld => ?_); refine gW 0 ?_; (try simp only [sq]); refine gW 1 ?_; (try simp only [sq]); refine gW 2 ?_; (try simp only [sq]); refine gV 3 (v := ?_) ?_ ?_; rotate_left
  · (intro w' hSw; have c2 := (HC.out w' hSw).1; go_simp) <;> (with_reducible rfl)
  (try simp only [sq]); refine gZ 4 n0 0 (XC) (fun w' hSw => (HC.out w' hSw).2) (by rw [HXL.out]; kernel_rfl) ?_; (try simp only [sq]); refine gR 5 rfl (fun K hK => ?_); go_simp; refine ((HSK.out _ KD.out).onL (fun C hl hg => HAD.out C _ hl hg)).mono ?_; rintro e w3 ⟨rfl, X3, s3, g3⟩; have H3 := Lib.hid (show Sk X3 w3 s d t r l b B T R K1 (nn + 1) su ∧ Grow X w X3 w3 from And.intro s3 (Grow.pre (KW.out.trans KD.out) g3)); have hK3 := (KD.out.mono (S' := X) (by simp)).trans g3.1; clear s3 g3; (try go_simp); refine hK.out _ _ (hK3) (fun hHeld => ?_); clear hK K; (try simp only [sq]); refine gW 6 ?_; (try simp only [sq]); refine wpAnyH_done (by kernel_rfl) ?_ _
  cases sure with
  | false =>
    simp only [Bool.false_eq_true, if_false] at hc2 ⊢; injection hc2 with hc2
    subst hc2; clear hK3 hHeld; go_wp2_with fail; go_ret; exact ⟨rfl, X3, H3.out⟩
  | true =>
    simp only [if_true] at hc2 ⊢; have c2 := H3.out.1.cells.2.2.1; have HSY := Lib.hid (fun (C : List Nat) (hl : Lg C w3 l d K1 (nn + 1) su false) => diary_Sync l d (nn + 1) su K1 K2 w3 hl (by omega) (by omega) (by omega) hc2); clear hK3 hHeld; go_wp2_with fail; refine (H3.out.1.onL (fun C hl hg => HSY.out C hl)).mono ?_; rintro e w4 ⟨rfl, X4, s4, g4⟩; have H4 := Lib.hid (show Sk X4 w4 s d t r l b B T R K2 (nn + 1) (nn + 1) ∧ Grow X w X4 w4 from And.intro s4 (H3.out.2.trans g4)); clear s4 g4 c2; go_wp2_with fail; go_ret; exact ⟨rfl, X4, H4.out⟩
structure Chg (x : Slp) (sure : Bool) (T : List Tik) (R : List Jar) (K : Dsk) (nn su : Nat) (K3 : Dsk) (n3 su3 : Nat) : Prop where
  ex : ∃ K2, writeD x sure K = some K2 ∧
    ((nn + 1 ≤ 2 * (slipsOf (applyT x T) (applyR x R)).length + 64 ∧ K3 = K2 ∧ n3 = nn + 1 ∧ su3 = if sure then nn + 1 else su) ∨
     (2 * (slipsOf (applyT x T) (applyR x R)).length + 64 < nn + 1 ∧ replaceD (recW (slipsOf (applyT x T) (applyR x R))) K2 = some K3 ∧ K.off = false ∧ (∀ y ∈ slipsOf (applyT x T) (applyR x R), goodS y = true) ∧ n3 = (slipsOf (applyT x T) (applyR x R)).length ∧ su3 = (slipsOf (applyT x T) (applyR x R)).length))
theorem stock_change (x : Slp) (XC : List Value) (hx : x.cells = XC) (sure : Bool) (K K3 : Dsk) (nn su n3 su3 : Nat) (w : World) (h : Sk X w s d t r l b B T R K nn su) (hg : goodS x = true) (hn : nn ≤ 100000) (hs : su ≤ nn) (hc : Chg x sure T R K nn su K3 n3 su3) :
    Calls Tryz.prog 50 #[.pointer (some ⟨s, 0, none⟩), .agg XC.toArray, .bool sure] w fun e w' => e = .returned (.int .i64 0) ∧ ∃ X', Sk X' w' s d t r l b B (applyT x T) (applyR x R) K3 n3 su3 ∧ Grow X w X' w' := by
  obtain ⟨K2, hw, hch⟩ := hc.ex; obtain ⟨n0, hn0⟩ : ∃ n, w.heap.size = n := ⟨_, rfl⟩
  have k1 := (Keep.refl [] w).alloc (.cells XC.toArray 27); have b1 := Blk.new w XC 27; rw [hn0] at b1; have HXL := Lib.hid (show XC.length = 38 by rw [← hx]; exact Slp.cells_length x); have hlt := h.lt; have HAP := Lib.hid (fun (Y : List Nat) w' (h : St Y w' t r B T R) => state_apply x XC hx (slipIn_good hg) w' h); obtain ⟨su2, hsu2⟩ : ∃ z, (if sure then nn + 1 else su) = z := ⟨_, rfl⟩
  have HWR := Lib.hid (fun w' (h : Sk X w' s d t r l b B T R K nn su) => stock_write x XC hx sure K K2 nn su w' h hg hn hs hw); rw [hsu2] at HWR hch; have hoff2 := writeD_off hw; obtain ⟨T', hT'⟩ : ∃ z, applyT x T = z := ⟨_, rfl⟩
  obtain ⟨R', hR'⟩ : ∃ z, applyR x R = z := ⟨_, rfl⟩
  rw [hT', hR'] at hch HAP ⊢; go_enter Tryz.func50, Tryz.ntmps50
  go_upto_region 1 with fail
  (try simp only [hn0]); generalize w.alloc (.cells XC.toArray 27) = w1 at k1 b1 ⊢; have H1 := Lib.hid (show Sk X w1 s d t r l b B T R K nn su ∧ Keep [] w w1 ∧ Blk w1 n0 27 XC ∧ n0 ∉ X from ⟨h.keep0 k1, k1, b1, fun hm => by have := hlt n0 hm; omega⟩); clear h k1 b1 hx hlt hg hw hT' hR' hn0 hsu2 hc
  go_wp2_with (first | ((with_reducible refine gL 10 4 ?_); refine gl n0 0 XC H1.out.2.2.1.rng (by rw [HXL.out]; kernel_rfl) ?_; try simp only [sq]) | fail); refine (HWR.out w1 H1.out.1).mono ?_; rintro e w3 ⟨rfl, X3, s3, g3⟩; have hn03 : n0 ∉ X3 := g3.out' H1.out.2.2.2 H1.out.2.2.1.lt; have bx3 := g3.1.blk H1.out.2.2.1 H1.out.2.2.2; have H3 := Lib.hid (show Sk X3 w3 s d t r l b B T R K2 (nn + 1) su2 ∧ Grow X w X3 w3 from ⟨s3, Grow.pre H1.out.2.1 g3⟩)
  have HC4 := Lib.hid (show ∀ w', Keep X3 w3 w' → w'.cell? ⟨s, 0, none⟩ = some (.pointer (some ⟨t, 0, none⟩)) ∧ w'.cell? ⟨s, 1, none⟩ = some (.pointer (some ⟨r, 0, none⟩)) ∧ w'.rangeAt n0 0 XC from fun w' k => by
    obtain ⟨Y, C, hXX, hb, _, _, _, hsX, _⟩ := H3.out.1; exact ⟨(k.blk hb hsX).get rfl, (k.blk hb hsX).get rfl, (k.blk bx3 hn03).rng⟩)
  have KD3 := Lib.hid ((Keep.refl [] w3).drew); clear s3 g3 hn03 bx3 HWR H1
  go_upto_region 4 with fail
  refine wp_region_held_drew (S := fun w' => Keep X3 w3 w') (by kernel_rfl) ((KD3.out.mono (by simp))) (fun hHeld => ?_); refine gW 0 ?_; (try simp only [sq]); refine gW 1 ?_; (try simp only [sq]); refine gW 2 ?_; (try simp only [sq]); refine gV 3 (v := ?_) ?_ ?_; rotate_left
  · (intro w' hSw; obtain ⟨c0, c1, _⟩ := HC4.out w' hSw; go_simp) <;> (with_reducible rfl)
  (try simp only [sq]); refine gZ 4 n0 0 (XC) (fun w' hSw => (HC4.out w' hSw).2.2) (by rw [HXL.out]; kernel_rfl) ?_; (try simp only [sq]); refine gR 5 rfl (fun K hK => ?_); go_simp; refine ((H3.out.1.keep0 KD3.out).onS (Q := fun e => e = .returned (.tuple #[])) (fun Y hY => HAP.out Y _ hY)).mono ?_; rintro e w4 ⟨rfl, X4, s4, g4⟩; have H4 := Lib.hid (show Sk X4 w4 s d t r l b B T' R' K2 (nn + 1) su2 ∧ Grow X w X4 w4 from And.intro s4 (H3.out.2.trans (Grow.pre KD3.out g4))); have hK4 := (KD3.out.mono (S' := X3) (by simp)).trans g4.1; clear s4 g4; (try go_simp); refine hK.out _ _ (hK4) (fun hHeld => ?_); clear hK K; (try simp only [sq]); refine wpAnyH_done (by kernel_rfl) ?_ _; obtain ⟨Y4, hst4⟩ := H4.out.1.st; have HSL := Lib.hid (state_slips w4 hst4); obtain ⟨c0, c1, c2, c3⟩ := H4.out.1.cells
  have hsl : (slipsOf T' R').length ≤ 1000 := by
    have h1 := hst4.most.1; have h2 := hst4.asc.2; unfold slipsOf; simp; omega
  obtain ⟨SL, hSL⟩ : ∃ z, slipsOf T' R' = z := ⟨_, rfl⟩
  rw [hSL] at hch HSL hsl; clear hK4 hHeld hst4 hSL; go_wp2_with fail; refine HSL.out.mono ?_; rintro e w5 ⟨v5, rfl, o5, k5⟩; obtain ⟨a5, cp5, rfl, hcp5⟩ := o5.shape; have H5 := Lib.hid (show Sk X4 w5 s d t r l b B T' R' K2 (nn + 1) su2 ∧ Grow X w X4 w5 ∧ Own Slp.cells 38 w4.heap.size 27 w5 (.slice a5 SL.length cp5) SL from ⟨H4.out.1.keep0 k5, H4.out.2.then k5, o5⟩); clear o5 k5 HSL c0 c1 c2 c3 hcp5; obtain ⟨c0, c1, c2, c3⟩ := H5.out.1.cells; obtain ⟨C5, hl5⟩ : ∃ C, Lg C w5 l d K2 (nn + 1) su2 false := by obtain ⟨Y, C, _, _, _, h3, _⟩ := H5.out.1; exact ⟨C, h3⟩
  have wk1 := IntWalk.i64_in (2 * (SL.length : Int)) (by omega); have wk2 := IntWalk.i64_in (2 * (SL.length : Int) + 64) (by omega); go_wp2_with fail; refine (diary_Len l d (nn + 1) su2 false K2 w5 hl5).mono ?_; rintro e we ⟨rfl, rfl⟩; clear hl5; rcases hch with ⟨hle, rfl, rfl, rfl⟩ | ⟨hgt, hrp, hoff, hgd, rfl, rfl⟩
  · have q1 : decide (2 * (SL.length : Int) + 64 < ((nn + 1 : Nat) : Int)) = false := decide_eq_false (by omega); have q2 : decide (2 * (SL.length : Int) + 64 < (nn : Int) + 1) = false := decide_eq_false (by omega); go_wp2_with fail; go_ret; exact ⟨rfl, X4, H5.out.1, H5.out.2.1⟩
  · have q1 : decide (2 * (SL.length : Int) + 64 < ((nn + 1 : Nat) : Int)) = true := decide_eq_true (by omega); have q2 : decide (2 * (SL.length : Int) + 64 < (nn : Int) + 1) = true := decide_eq_true (by omega); go_wp2_with fail; refine (H5.out.1.onL (fun C hl hg => diary_Rewrite l d (nn + 1) su2 false SL _ K2 K3 w5 hl hg (H5.out.2.2.sl Slp.cells_length) hgd (by omega) (by rw [hoff2]; exact hoff) hrp)).mono ?_; rintro e w6 ⟨rfl, X6, s6, g6⟩; have H6 := Lib.hid (And.intro s6 (H5.out.2.1.trans g6)); clear s6 g6 c0 c1 c2 c3; go_wp2_with fail; go_ret; exact ⟨rfl, X6, H6.out⟩
end
end Go.Proofs.YtkghgaopcgcheaaGreatDoor
namespace Go.Proofs.YtkghgaopcgcheaaGreatDoor
open Go.RowKit Go.Maps
section
variable {X : List Nat} {s d t r l b : Nat} {B : Int} {T : List Tik} {R : List Jar}
def goneS (dg : Dig) : Slp := ⟨5, [], [], dg, [], 0, 0⟩
theorem gone_good (dg : Dig) : goodS (goneS dg) = true := by
  unfold goodS goneS; simp [isKind, onlyS, fdsOf]
theorem gone_T (dg : Dig) (T : List Tik) : applyT (goneS dg) T = T := by simp [applyT, goneS]
theorem gone_R (dg : Dig) (R : List Jar) : applyR (goneS dg) R = dropL R dg := by simp [applyR, goneS]
inductive Trm (B : Int) (T : List Tik) : Nat → List Jar → Dsk → Nat → Nat → List Jar → Dsk → Nat → Nat → Prop
  | done {R : List Jar} {K : Dsk} {nn su : Nat} : vicL B R = none → Trm B T 0 R K nn su R K nn su
  | step {m : Nat} {R : List Jar} {K : Dsk} {nn su : Nat} {j : Jar} {K1 K2 : Dsk} {n1 su1 : Nat} {R' : List Jar} {K' : Dsk} {n' su' : Nat} : vicL B R = some j → nn ≤ 100000 → su ≤ nn → Chg (goneS j.dig) true T R K nn su K1 n1 su1 →
      deleteD (fileM j.dig.1) K1 = some K2 → Trm B T m (dropL R j.dig) K2 n1 su1 R' K' n' su' → Trm B T (m + 1) R K nn su R' K' n' su'
theorem stock_trim {m : Nat} {K K' : Dsk} {nn su n' su' : Nat} {R' : List Jar} (w : World) (h : Sk X w s d t r l b B T R K nn su) (ht : Trm B T m R K nn su R' K' n' su') :
    Calls Tryz.prog 59 #[.pointer (some ⟨s, 0, none⟩)] w fun e w' => e = .returned (.tuple #[]) ∧ ∃ X', Sk X' w' s d t r l b B T R' K' n' su' ∧ Grow X w X' w' := by
  have H := Lib.hid h; have HT := Lib.hid ht; clear h ht; go_enter Tryz.func59, Tryz.ntmps59; go_wp2_with fail; go_step3; go_wp2_with fail; go_step3; go_wp2_with fail
  go_loopg [] m (fun g wr => ∃ (X' : List Nat) (R1 : List Jar) (K1 : Dsk) (n1 su1 : Nat), Hid (Sk X' wr s d t r l b B T R1 K1 n1 su1 ∧ Grow X w X' wr ∧ Trm B T g R1 K1 n1 su1 R' K' n' su'))
  case atStart => exact ⟨X, R, K, nn, su, Lib.hid ⟨H.out, Grow.refl _ _, HT.out⟩⟩
  case round =>
    obtain ⟨X1, R1, K1, n1, su1, HI⟩ := hrel; obtain ⟨c0, c1, c2, c3⟩ := HI.out.1.cells; obtain ⟨Y1, hst⟩ := HI.out.1.st; have HV := Lib.hid hst.victim; have HTR := HI.out.2.2; clear hst
    cases HTR with
    | done hv =>
      rw [hv] at HV; have HD0 := Lib.hid (show (digC (vicD none)).length = 32 ∧ ∀ v ∈ digC (vicD none), v.oneCell' = true from ⟨digC_length _, digC_one _⟩); go_wp2_with fail; refine HV.out.mono ?_; rintro e w2 ⟨rfl, k2⟩; have K2 := Lib.hid k2; clear k2 c0 c1 c2 c3
      go_upto_region 1 with (first | ((with_reducible refine gS 2 11 ?_); refine wpList_store_new rfl 25 (.tmp 2) (.tmp 11) rfl _ (digC (vicD none)) (by rfl) (by rfl) (by rw [HD0.out.1]; kernel_rfl) (by rw [HD0.out.1]; kernel_rfl) HD0.out.2 ?_) | fail)
      have k3 := K2.out.alloc (.cells (digC (vicD none)).toArray 25); generalize w2.alloc (.cells (digC (vicD none)).toArray 25) = w3 at k3 ⊢; have HF := Lib.hid (show Sk X1 w3 s d t r l b B T R' K' n' su' ∧ Grow X w X1 w3 from ⟨HI.out.1.keep0 k3, HI.out.2.1.then k3⟩); clear k3; go_wp2_with fail; rw [Exit.noGoto_normal]; go_end0; exact ⟨rfl, X1, HF.out⟩
    | @step m1 _ _ _ _ j K2 K3 n2' su2' _ _ _ _ hv hn1 hs1 hch hdel hrest =>
      rw [hv] at HV; have HCH := Lib.hid (fun XC hx w' (h : Sk X1 w' s d t r l b B T R1 K1 n1 su1) => stock_change (goneS j.dig) XC hx true K1 K2 n1 su1 n2' su2' w' h (gone_good _) hn1 hs1 hch); rw [gone_T, gone_R] at HCH; have HDE := Lib.hid (fun (C : List Nat) w' (hp : Pk C w' d K2) (hb : b ∉ C) (hl : Ld w' b d) => larder_Delete b d j.dig K2 K3 w' hl hp hb hdel); have HBD := Lib.hid (bd_slipD 5 j.dig); obtain ⟨XC, hXC⟩ : ∃ z, (goneS j.dig).cells = z := ⟨_, rfl⟩
      rw [show (⟨5, [], [], j.dig, [], 0, 0⟩ : Slp) = goneS j.dig from rfl, hXC] at HBD; have HCH := Lib.hid (HCH.out XC hXC); obtain ⟨DC, hDC⟩ : ∃ z, digC j.dig = z := ⟨_, rfl⟩
      have HDC := Lib.hid (show DC.length = 32 ∧ ∀ v ∈ DC, v.oneCell' = true from ⟨by rw [← hDC]; exact digC_length _, by rw [← hDC]; exact digC_one _⟩); have HDL := Lib.hid HDC.out.1; have hv2 : digC (vicD (some j)) = DC := hDC; rw [hv2] at HV; rw [hDC] at HBD HDE; have HRS := Lib.hid hrest; clear hv hn1 hs1 hch hdel hrest hXC hDC hv2; go_wp2_with fail; refine HV.out.mono ?_; rintro e w2 ⟨rfl, k2⟩; have K2w := Lib.hid k2; clear k2 c0 c1 c2 c3
      go_upto_region 1 with (first | ((with_reducible refine gS 2 11 ?_); refine wpList_store_new rfl 25 (.tmp 2) (.tmp 11) rfl _ DC (by rfl) (by rfl) (by rw [HDC.out.1]; kernel_rfl) (by rw [HDC.out.1]; kernel_rfl) HDC.out.2 ?_) | fail)
      obtain ⟨n2, hn2⟩ : ∃ n, w2.heap.size = n := ⟨_, rfl⟩
      have b3 := Blk.new w2 DC 25; rw [hn2] at b3; (try rw [hn2]); have k3 := K2w.out.alloc (.cells DC.toArray 25); generalize w2.alloc (.cells DC.toArray 25) = w3 at k3 b3 ⊢; have H3 := Lib.hid (show Sk X1 w3 s d t r l b B T R1 K1 n1 su1 ∧ Grow X w X1 w3 ∧ Blk w3 n2 25 DC ∧ n2 ∉ X1 from ⟨HI.out.1.keep0 k3, HI.out.2.1.then k3, b3, fun hm => by have := HI.out.1.lt n2 hm; have := K2w.out.size; omega⟩); clear k3 b3 hn2
      go_wp2_with (first | ((with_reducible refine gL 16 2 ?_); refine gl n2 0 DC H3.out.2.2.1.rng (by rw [HDC.out.1]; kernel_rfl) ?_; try simp only [sq]) | ((with_reducible refine gB 17 ?_); refine wpList_b2' rfl (cs := XC) (by exact HBD.out) _ _ rfl (by rfl) (by rfl) ?_; try simp only [sq]) | fail); refine (HCH.out w3 H3.out.1).mono ?_; rintro e w4 ⟨rfl, X4, s4, g4⟩
      have HC4 := Lib.hid (show ∀ w', Keep X4 w4 w' → w'.cell? ⟨s, 3, none⟩ = some (.pointer (some ⟨b, 0, none⟩)) ∧ w'.rangeAt n2 0 DC from fun w' k => by
        obtain ⟨Y, C, hXX, hb, _, _, _, hsX, _⟩ := s4; exact ⟨(k.blk hb hsX).get rfl, (k.blk (g4.1.blk H3.out.2.2.1 H3.out.2.2.2) (g4.out' H3.out.2.2.2 H3.out.2.2.1.lt)).rng⟩)
      have H4 := Lib.hid (show Sk X4 w4 s d t r l b B T (dropL R1 j.dig) K2 n2' su2' ∧ Grow X w X4 w4 from ⟨s4, H3.out.2.1.trans g4⟩); have KD4 := Lib.hid ((Keep.refl [] w4).drew); clear s4 g4 HV
      go_upto_region 3 with fail
      refine wp_region_held_drew (S := fun w' => Keep X4 w4 w') (by kernel_rfl) ((KD4.out.mono (by simp))) (fun hHeld => ?_); refine gW 0 ?_; (try simp only [sq]); refine gW 1 ?_; (try simp only [sq]); refine gW 2 ?_; (try simp only [sq]); refine gV 3 (v := ?_) ?_ ?_; rotate_left
      · (intro w' hSw; have c3 := (HC4.out w' hSw).1; go_simp) <;> (with_reducible rfl)
      (try simp only [sq]); refine gZ 4 n2 0 (DC) (fun w' hSw => (HC4.out w' hSw).2) (by rw [HDL.out]; kernel_rfl) ?_; (try simp only [sq]); refine gR 5 rfl (fun K hK => ?_); go_simp; refine ((H4.out.1.keep0 KD4.out).onD (fun C hp hg hb => HDE.out C _ hp hb (H4.out.1.keep0 KD4.out).ld)).mono ?_; rintro e w5 ⟨rfl, X5, s5, g5⟩; have H5 := Lib.hid (show Sk X5 w5 s d t r l b B T (dropL R1 j.dig) K3 n2' su2' ∧ Grow X w X5 w5 from And.intro s5 (H4.out.2.trans (Grow.pre KD4.out g5))); have hK5 := (KD4.out.mono (S' := X4) (by simp)).trans g5.1; clear s5 g5; (try go_simp); refine hK.out _ _ (hK5) (fun hHeld => ?_); clear hK K; (try simp only [sq]); refine wpAnyH_done (by kernel_rfl) ?_ _; clear hK5 hHeld; go_wp2_with fail
      go_roundg m1
      case measure => omega
      case rel => exact ⟨X5, _, K3, n2', su2', Lib.hid ⟨H5.out.1, H5.out.2, HRS.out⟩⟩
theorem stock_Note (x : Tik) (XC : List Value) (hx : x.cells = XC) (hi : tikIn x) {K K3 : Dsk} {nn su n3 su3 : Nat} (w : World) (h : Sk X w s d t r l b B T R K nn su) (hg : goodT x = true) (hgs : goodS (notedS x) = true) (hn : nn ≤ 100000) (hs : su ≤ nn) (hc : Chg (notedS x) true T R K nn su K3 n3 su3) :
    Calls Tryz.prog 14 #[.pointer (some ⟨s, 0, none⟩), .agg XC.toArray] w fun e w' => e = .returned (.int .i64 0) ∧ ∃ X', Sk X' w' s d t r l b B (applyT (notedS x) T) (applyR (notedS x) R) K3 n3 su3 ∧ Grow X w X' w' := by
  obtain ⟨n0, hn0⟩ : ∃ n, w.heap.size = n := ⟨_, rfl⟩
  have k1 := (Keep.refl [] w).alloc (.cells XC.toArray 51); have b1 := Blk.new w XC 51; rw [hn0] at b1; have HXL := Lib.hid (show XC.length = 38 by rw [← hx]; exact Tik.cells_length x); have HGD := Lib.hid (fun w' => ticket_Good x XC hx w' hi); rw [hg] at HGD; obtain ⟨NC, hNC⟩ : ∃ z, (notedS x).cells = z := ⟨_, rfl⟩
  have HNO := Lib.hid (fun w' => stock_noted x XC hx w'); have HCH := Lib.hid (fun w' (h : Sk X w' s d t r l b B T R K nn su) => stock_change (notedS x) NC hNC true K K3 nn su n3 su3 w' h hgs hn hs hc); rw [hNC] at HNO; go_enter Tryz.func14, Tryz.ntmps14
  go_upto_region 1 with fail
  (try simp only [hn0]); generalize w.alloc (.cells XC.toArray 51) = w1 at k1 b1 ⊢; have H1 := Lib.hid (show Sk X w1 s d t r l b B T R K nn su ∧ Keep [] w w1 ∧ Blk w1 n0 51 XC from ⟨h.keep0 k1, k1, b1⟩); clear h k1 b1 hx hg hgs hc hi hNC hn0
  go_wp2_with (first | ((with_reducible refine gL 9 3 ?_); refine gl n0 0 XC H1.out.2.2.rng (by rw [HXL.out]; kernel_rfl) ?_; try simp only [sq]) | fail); refine (HGD.out w1).mono ?_; rintro e w2 ⟨rfl, k2⟩; have H2 := Lib.hid (show Sk X w2 s d t r l b B T R K nn su ∧ Keep [] w w2 ∧ Blk w2 n0 51 XC from ⟨H1.out.1.keep0 k2, H1.out.2.1.trans k2, k2.blk H1.out.2.2 (by simp)⟩); clear k2 H1 HGD
  go_wp2_with (first | ((with_reducible refine gL 13 3 ?_); refine gl n0 0 XC H2.out.2.2.rng (by rw [HXL.out]; kernel_rfl) ?_; try simp only [sq]) | fail); refine (HNO.out w2).mono ?_; rintro e w3 ⟨rfl, k3⟩; have H3 := Lib.hid (show Sk X w3 s d t r l b B T R K nn su ∧ Keep [] w w3 from ⟨H2.out.1.keep0 k3, H2.out.2.1.trans k3⟩); clear k3 H2 HNO; go_wp2_with fail; refine (HCH.out w3 H3.out.1).mono ?_; rintro e w4 ⟨rfl, X4, s4, g4⟩; have H4 := Lib.hid (And.intro s4 (Grow.pre H3.out.2 g4)); clear s4 g4; go_wp2_with fail; go_ret; exact ⟨rfl, X4, H4.out⟩
end
end Go.Proofs.YtkghgaopcgcheaaGreatDoor
namespace Go.Proofs.YtkghgaopcgcheaaGreatDoor
open Go.RowKit Go.Maps
structure Stk where
  T : List Tik
  R : List Jar
  K : Dsk
  nn : Nat
  su : Nat
def chgP (x : Slp) (sure : Bool) (s : Stk) : Option Stk :=
  if goodS x && decide (s.nn ≤ 100000) && decide (s.su ≤ s.nn) then
    (writeD x sure s.K).bind fun K2 =>
      if s.nn + 1 ≤ 2 * (slipsOf (applyT x s.T) (applyR x s.R)).length + 64 then some ⟨applyT x s.T, applyR x s.R, K2, s.nn + 1, if sure then s.nn + 1 else s.su⟩
      else if !s.K.off && (slipsOf (applyT x s.T) (applyR x s.R)).all goodS then
        (replaceD (recW (slipsOf (applyT x s.T) (applyR x s.R))) K2).map fun K3 => ⟨applyT x s.T, applyR x s.R, K3, (slipsOf (applyT x s.T) (applyR x s.R)).length, (slipsOf (applyT x s.T) (applyR x s.R)).length⟩
      else none
  else none
theorem chg_of {x : Slp} {sure : Bool} {s s' : Stk} (h : chgP x sure s = some s') :
    goodS x = true ∧ s.nn ≤ 100000 ∧ s.su ≤ s.nn ∧ Chg x sure s.T s.R s.K s.nn s.su s'.K s'.nn s'.su ∧ s'.T = applyT x s.T ∧ s'.R = applyR x s.R := by
  unfold chgP at h
  split at h
  case isFalse => cases h
  case isTrue hc =>
    simp only [Bool.and_eq_true, decide_eq_true_eq] at hc; obtain ⟨K2, hw, h⟩ := Option.bind_eq_some_iff.1 h
    split at h
    · rename_i hle; injection h with h
      subst h; exact ⟨hc.1.1, hc.1.2, hc.2, ⟨K2, hw, .inl ⟨hle, rfl, rfl, rfl⟩⟩, rfl, rfl⟩
    · rename_i hle
      split at h
      case isFalse => cases h
      case isTrue ho =>
        simp only [Bool.and_eq_true, Bool.not_eq_true', List.all_eq_true] at ho; obtain ⟨K3, hr, h⟩ := Option.map_eq_some_iff.1 h; subst h; exact ⟨hc.1.1, hc.1.2, hc.2, ⟨K2, hw, .inr ⟨by omega, hr, ho.1, ho.2, rfl, rfl⟩⟩, rfl, rfl⟩
def trimP (B : Int) : Nat → Stk → Option Stk
  | 0, _ => none
  | m + 1, s => match vicL B s.R with
    | none => some s
    | some j => (chgP (goneS j.dig) true s).bind fun s1 => (deleteD (fileM j.dig.1) s1.K).bind fun K => trimP B m { s1 with K := K }
theorem trm_of {B : Int} : ∀ {m : Nat} {s s' : Stk}, trimP B m s = some s' → ∃ n, Trm B s.T n s.R s.K s.nn s.su s'.R s'.K s'.nn s'.su ∧ s'.T = s.T
  | 0, _, _, h => by simp [trimP] at h
  | m + 1, s, s', h => by
    unfold trimP at h
    split at h
    · rename_i hv; injection h with h
      subst h; exact ⟨0, .done hv, rfl⟩
    · rename_i j hv; obtain ⟨s1, h1, h⟩ := Option.bind_eq_some_iff.1 h; obtain ⟨K, h2, h⟩ := Option.bind_eq_some_iff.1 h; obtain ⟨_, hn, hs, hc, ht, hr⟩ := chg_of h1; obtain ⟨n, hT, ht'⟩ := trm_of h; rw [gone_T] at ht; rw [gone_R] at hr; simp only at hT ht'; rw [ht, hr] at hT; exact ⟨n + 1, .step hv hn hs hc h2 hT, by rw [ht', ht]⟩
def pinN : Nat → List Jar → Dig → List Jar
  | 0, R, _ => R
  | n + 1, R, d => pinN n (pinL R d) d
def keepP (B : Int) (name : List UInt8) (dg : Dig) (sz : Int) (kind : List UInt8) (pins : Nat) (s : Stk) : Option (Stk × Int) :=
  if 100 < kind.length then some (s, 1)
  else if hasJ s.R dg then (deleteD name s.K).map fun K => ({ s with K := K, R := pinN pins s.R dg }, 0)
  else (trimP B 65 s).bind fun s1 =>
    if 64 ≤ s1.R.length then (deleteD name s1.K).map fun K => ({ s1 with K := K }, 6)
    else (syncD name s1.K).bind fun Km => (renameD name (fileM dg.1) Km).bind fun Kc =>
      (chgP ⟨4, [], [], dg, kind, sz, 0⟩ true { s1 with K := Kc }).bind fun s2 =>
        (trimP B 65 { s2 with R := pinN pins s2.R dg }).map fun s3 => (s3, 0)
def putP (B : Int) (l kind : List UInt8) (s : Stk) : Option (Stk × Int) :=
  if s.K.off = false ∧ sizeD tmpN s.K < 0 ∧ l.length ≤ 1048576 then
    (createD tmpN s.K).bind fun K1 => (if l = [] then some K1 else appendD tmpN l K1).bind fun K2 =>
      keepP B tmpN (shaOf [l]) l.length kind (l.length % 2) { s with K := K2 }
  else none
def sweepB (Kd : Dsk) (p : List UInt8 × List UInt8 × Nat) : Bool := match behindB p.1 with
  | some dg => decide (readD p.1 Kd = some p.2.1) && decide (shaOf [p.2.1] = dg)
  | none => !Lib.hasPrefix p.1 tmpP && !Lib.hasPrefix p.1 pfxB
theorem sweepB_ok {Kd : Dsk} {p : List UInt8 × List UInt8 × Nat} (h : sweepB Kd p = true) : sweepOk Kd p := by
  unfold sweepB at h; unfold sweepOk
  cases hb : behindB p.1 with
  | some dg =>
    rw [hb] at h; simp only [Bool.and_eq_true, decide_eq_true_eq] at h; exact h
  | none =>
    rw [hb] at h; simp only [Bool.and_eq_true, Bool.not_eq_true'] at h; exact h
def openP (B : Int) (K : Dsk) : Option Stk :=
  if K.off = false ∧ 0 ≤ B ∧ B ≤ 1099511627776 then
    (loadD K).bind fun q =>
      if q.1.length ≤ 4194304 ∧ (allL q.1).2 = q.1.length ∧ (allL q.1).1.length ≤ 100000 ∧ (allL q.1).1.all goodS = true ∧ q.2.off = false ∧ q.2.files.length ≤ 4000 ∧ q.2.files.all (sweepB q.2) = true ∧
        (rep (allL q.1).1).2.all (fun j => (jarsD q.2.files).any fun x => decide (x.dig = j.dig) && decide (x.size = j.size)) = true ∧ (vicL B (rep (allL q.1).1).2).isNone = true ∧
        (blobsD (q.2.files.map (·.1))).all (hasJ (rep (allL q.1).1).2) = true ∧ (slipsOf (rep (allL q.1).1).1 (rep (allL q.1).1).2).all goodS = true then
        (replaceD (recW (slipsOf (rep (allL q.1).1).1 (rep (allL q.1).1).2)) q.2).map fun K2 =>
          ⟨(rep (allL q.1).1).1, (rep (allL q.1).1).2, K2, (slipsOf (rep (allL q.1).1).1 (rep (allL q.1).1).2).length, (slipsOf (rep (allL q.1).1).1 (rep (allL q.1).1).2).length⟩
      else none
  else none
section
variable {Y : List Nat} {w : World} {t r : Nat} {B : Int} {T : List Tik} {R : List Jar}
theorem St.total (h : St Y w t r B T R) : Calls Tryz.prog 67 #[.pointer (some ⟨r, 0, none⟩)] w fun e w' => e = .returned (.int .i64 (sumL R)) ∧ Keep [] w w' := by
  obtain ⟨A, C, rfl, h1, h2, h3, h4⟩ := h; exact rack_Total r B R w h2
theorem St.len (h : St Y w t r B T R) : Calls Tryz.prog 111 #[.pointer (some ⟨r, 0, none⟩)] w fun e w' => e = .returned (.int .i64 (R.length : Nat)) ∧ Keep [] w w' := by
  obtain ⟨A, C, rfl, h1, h2, h3, h4⟩ := h; exact rack_Len r B R w h2
end
section
variable {X : List Nat} {w : World} {s d t r l b : Nat} {B : Int} {T : List Tik} {R : List Jar} {K : Dsk} {n sure : Nat}
theorem Sk.disk (h : Sk X w s d t r l b B T R K n sure) : ∃ C, Pk C w d K ∧ GP C w ∧ b ∉ C ∧ (∀ x ∈ C, x ∈ X) ∧
    ∀ (Q C' : List Nat) (w' : World) (K' : Dsk), (∀ q ∈ Q, q ∉ X ∧ q ≠ s ∧ q ≠ b ∧ ¬ isG q) → Pk C' w' d K' → Keep (Q ++ C) w w' → (∀ x ∈ C', x ∈ C ∨ w.heap.size ≤ x) →
      ∃ X', Sk X' w' s d t r l b B T R K' n sure ∧ Keep (Q ++ X) w w' ∧ (∀ x ∈ X', x ∈ X ∨ w.heap.size ≤ x) ∧ (∀ x ∈ X', x ∈ X ∨ x ∈ C') := by
  obtain ⟨Y, C, rfl, h1, h2, h3, h4, h5, h6, h7, h8, h9⟩ := h; refine ⟨C, h3.1, ⟨h9.1, fun x hx => h9.2 x (by simp [hx])⟩, fun hm => h6 (by simp [hm]), fun x hx => by simp [hx], fun Q C' w' K' hQ p' k hf => ?_⟩
  have hlC : l ∉ C' := fun hm => by
    rcases hf l hm with e | e
    · exact h3.2.2 e
    · obtain ⟨z, hz⟩ := h3.2.1; have := hz.lt; omega
  have hC' : ∀ x ∈ C', x ∈ Y ++ l :: C ∨ w.heap.size ≤ x := fun x hx => (hf x hx).imp (fun e => by simp [e]) id
  have hX' : ∀ x ∈ Y ++ l :: cutS C' w', x ∈ Y ++ l :: C ∨ x ∈ C' := fun x hx => by
    rcases List.mem_append.1 hx with hx | hx
    · exact .inl (by simp [hx])
    · rcases List.mem_cons.1 hx with rfl | hx
      · exact .inl (by simp)
      · exact .inr (mem_cutS.1 hx).1
  have hX2 : ∀ x ∈ Y ++ l :: cutS C' w', x ∈ Y ++ l :: C ∨ w.heap.size ≤ x := fun x hx => (hX' x hx).elim .inl (hC' x)
  have hgl : Glob w' := h9.1.keep k (fun x hx => by
    rcases List.mem_append.1 hx with hx | hx
    · exact (hQ x hx).2.2.2
    · exact h9.2 x (by simp [hx]))
  refine ⟨Y ++ l :: cutS C' w', ⟨Y, cutS C' w', rfl, k.blk h1 (fun hm => ?_), h2.keep k (fun x hx hm => ?_), ⟨p'.cut, ?_, fun hm => hlC (mem_cutS.1 hm).1⟩, k.blk h4 (fun hm => ?_), fun hm => ?_, fun hm => ?_, fun x hx hm => ?_, fun x hx => ?_, ⟨hgl, fun x hx => ?_⟩⟩, k.mono (fun x hx _ => ?_), hX2, hX'⟩
  · rcases List.mem_append.1 hm with hm | hm
    · exact (hQ s hm).2.1 rfl
    · exact h5 (by simp [hm])
  · rcases List.mem_append.1 hm with hm | hm
    · exact (hQ x hm).1 (by simp [hx])
    · exact h7 x hx (by simp [hm])
  · obtain ⟨z, hz⟩ := h3.2.1; refine ⟨z, k.blk hz (fun hm => ?_)⟩; rcases List.mem_append.1 hm with hm | hm
    · exact (hQ l hm).1 (by simp)
    · exact h3.2.2 hm
  · rcases List.mem_append.1 hm with hm | hm
    · exact (hQ b hm).2.2.1 rfl
    · exact h6 (by simp [hm])
  · rcases hX2 s hm with e | e
    · exact h5 e
    · have := h1.lt; omega
  · rcases hX2 b hm with e | e
    · exact h6 e
    · have := h4.lt; omega
  · rcases List.mem_cons.1 hm with rfl | hm
    · exact h7 x hx (by simp)
    · rcases hf x (mem_cutS.1 hm).1 with e | e
      · exact h7 x hx (by simp [e])
      · have := h8 x (by simp [hx]); omega
  · rcases List.mem_append.1 hx with hx | hx
    · exact Nat.lt_of_lt_of_le (h8 x (by simp [hx])) k.size
    · rcases List.mem_cons.1 hx with rfl | hx
      · exact Nat.lt_of_lt_of_le (h8 x (by simp)) k.size
      · exact (mem_cutS.1 hx).2
  · rcases hX2 x hx with e | e
    · exact h9.2 x e
    · exact h9.1.fresh e
  · rcases List.mem_append.1 hx with hx | hx
    · simp [hx]
    · simp [hx]
end
end Go.Proofs.YtkghgaopcgcheaaGreatDoor
namespace Go.Proofs.YtkghgaopcgcheaaGreatDoor
open Go.RowKit Go.Maps
section
variable {X : List Nat} {w : World} {s d t r l b : Nat} {B : Int} {T : List Tik} {R : List Jar} {K : Dsk} {n sure : Nat}
theorem stock_Total (h : Sk X w s d t r l b B T R K n sure) : Calls Tryz.prog 25 #[.pointer (some ⟨s, 0, none⟩)] w fun e w' => e = .returned (.int .i64 (sumL R)) ∧ Keep [] w w' := by
  obtain ⟨c0, c1, c2, c3⟩ := h.cells; obtain ⟨Y, hst⟩ := h.st; have HT := Lib.hid hst.total; clear h hst; go_enter Tryz.func25, Tryz.ntmps25; go_wp2_with fail; refine HT.out.mono ?_; rintro e w2 ⟨rfl, k2⟩; have K2 := Lib.hid k2; clear k2 c0 c1 c2 c3; go_wp2_with fail; go_ret; exact ⟨rfl, K2.out⟩
theorem stock_Jars (h : Sk X w s d t r l b B T R K n sure) : Calls Tryz.prog 28 #[.pointer (some ⟨s, 0, none⟩)] w fun e w' => ∃ v, e = .returned v ∧ Own Jar.cells 35 w.heap.size 63 w' v R ∧ Keep [] w w' := by
  obtain ⟨c0, c1, c2, c3⟩ := h.cells; obtain ⟨Y, hst⟩ := h.st; have HT := Lib.hid hst.jars; clear h hst; go_enter Tryz.func28, Tryz.ntmps28; go_wp2_with fail; refine HT.out.mono ?_; rintro e w2 ⟨v, rfl, ho, k2⟩; obtain ⟨aa, ca, rfl, hcap⟩ := ho.shape; have K2 := Lib.hid (And.intro ho k2); clear k2 c0 c1 c2 c3 ho hcap; go_wp2_with fail; go_ret; exact ⟨_, rfl, K2.out⟩
theorem stock_Slips (h : Sk X w s d t r l b B T R K n sure) : Calls Tryz.prog 30 #[.pointer (some ⟨s, 0, none⟩)] w fun e w' => ∃ v, e = .returned v ∧ Own Slp.cells 38 w.heap.size 27 w' v (slipsOf T R) ∧ Keep [] w w' := by
  obtain ⟨c0, c1, c2, c3⟩ := h.cells; obtain ⟨Y, hst⟩ := h.st; have HT := Lib.hid (state_slips w hst); clear h hst; go_enter Tryz.func30, Tryz.ntmps30; go_wp2_with fail; refine HT.out.mono ?_; rintro e w2 ⟨v, rfl, ho, k2⟩; obtain ⟨aa, ca, rfl, hcap⟩ := ho.shape; have K2 := Lib.hid (And.intro ho k2); clear k2 ho hcap c0 c1 c2 c3; go_wp2_with fail; go_ret; exact ⟨_, rfl, K2.out⟩
theorem stock_Larder (h : Sk X w s d t r l b B T R K n sure) : Calls Tryz.prog 32 #[.pointer (some ⟨s, 0, none⟩)] w fun e w' => e = .returned (.pointer (some ⟨b, 0, none⟩)) ∧ w = w' := by
  obtain ⟨c0, c1, c2, c3⟩ := h.cells; clear h; go_enter Tryz.func32, Tryz.ntmps32; go_wp2_with fail; go_ret; exact ⟨rfl, rfl⟩
end
end Go.Proofs.YtkghgaopcgcheaaGreatDoor
