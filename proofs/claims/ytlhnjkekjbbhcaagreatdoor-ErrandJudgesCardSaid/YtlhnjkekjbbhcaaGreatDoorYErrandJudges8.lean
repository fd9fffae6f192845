/- Parts of the proof of ErrandJudges, in order. No conditions but those that each theorem states. -/
import Derived.Test.YtlhnjkekjbbhcaaGreatDoorYErrandJudges0
import Derived.WalkMore
import Derived.Lib.SlBytesConst
import Derived.Lib.LaidTab
import Derived.Lib.ItoaNum
import Derived.Lib.ItoaLen
import Derived.Sort.Grow
import Derived.Test.YtlhnjkekjbbhcaaGreatDoorYErrandJudges7
namespace Go.Proofs.YtlhnjkekjbbhcaaGreatDoor
open Go.RowKit Go.Shelf
set_option maxRecDepth 100000 in
set_option maxHeartbeats 2000000 in
theorem chunk_trailer (B b : Nat) (p : List UInt8) (c : Ck) (v : Value) (w : World) (hm : ML w) (hb : 1 ≠ b) (h : Ct B w b p c v) (hl : c.inp.length ≤ 1048576) (hfl : c.flds ≤ 16) :
    Calls Tryz.prog 204 #[.pointer (some ⟨b, 0, none⟩)] w fun e w' => e = .returned (.int .i64 (trailM c).2) ∧ Ct B w' b p (trailM c).1 v ∧ Keep [b] w w' := by
  have HL := Lib.hid (chunk_line B b p c v w h hl); have hle := line_le c.inp; have HP := Lib.hid (fun w1 (hm1 : ML w1) => parse_two (lnC c.inp).t w1 hm1 (by omega))
  have hbe : trailM c = if (lnC c.inp).e ≠ 0 then (c, (lnC c.inp).e)
    else if (lnC c.inp).t = [] then ({ c with inp := (lnC c.inp).r, st := 4 }, 0)
    else if parseE (lnC c.inp).t ≠ 0 then ({ c with inp := (lnC c.inp).r }, parseE (lnC c.inp).t)
    else ({ c with inp := (lnC c.inp).r, flds := c.flds + 1 }, if 16 < c.flds + 1 then 4 else 0) := rfl
  have hPe := parseE_cases (lnC c.inp).t; have hle2 := line_err (l := c.inp); generalize (lnC c.inp).e = le at *; generalize (lnC c.inp).r = lr at *; generalize (parseV (lnC c.inp).t).name = pn at *; generalize (parseV (lnC c.inp).t).value = pw at *; generalize parseE (lnC c.inp).t = pe at *; generalize (lnC c.inp).t = lt at *; have s1 := S_size lt; have s2 := S_toList lt; clear h; by_cases h0 : le = 0
  · subst h0; rw [if_neg (by simp)] at hbe; by_cases ht : lt = []
    · rw [if_pos ht] at hbe; have ht' : lt.isEmpty = true := by rw [ht]; rfl
      have HB := Lib.hid hbe; clear hbe hle2 ht; go_enter Tryz.func204, Tryz.ntmps204; go_wp2_with fail; refine HL.out.mono ?_; rintro e w1 ⟨rfl, t1, k1⟩; have T1 := Lib.hid t1; have K1 := Lib.hid k1; clear t1 k1; obtain ⟨d0, _, _, _, _, _, _⟩ := T1.out.at; have f0 := T1.out.free 0; dsimp only at d0; go_wp2_with fail; go_ret; rw [HB.out]; exact ⟨rfl, T1.out.set 0 _ (fun _ => rfl) rfl, K1.out.setCell _ _ (by simp)⟩
    · have ht' : lt.isEmpty = false := by cases lt with | nil => exact absurd rfl ht | cons => rfl
      rw [if_neg ht] at hbe; by_cases hp0 : pe = 0
      · subst hp0; rw [if_neg (by simp)] at hbe; have HB := Lib.hid hbe; have hfw := IntWalk.i64_in ((c.flds : Int) + 1) (by omega); by_cases h16 : 16 < c.flds + 1
        · have h16' : decide ((c.flds : Int) + 1 > 16) = true := by simp; omega
          have HB := Lib.hid (hbe.trans (by rw [if_pos h16])); clear hbe hle2 ht h16; go_enter Tryz.func204, Tryz.ntmps204; go_wp2_with fail; refine HL.out.mono ?_; rintro e w1 ⟨rfl, t1, k1⟩; have T1 := Lib.hid t1; have K1 := Lib.hid k1; clear t1 k1; go_wp2_with fail; refine (HP.out _ (hm.keep K1.out (by simpa using hb))).mono ?_; rintro e w2 ⟨rfl, k2⟩; have k3 := k2.alloc (.cells #[.string (S pn), .string (S pw)] 89); have T2 := Lib.hid (T1.out.keep0 k3); have K2 := Lib.hid (K1.out.trans' k3 (by simp)); clear k2 k3; obtain ⟨_, _, _, d3, _, _, _⟩ := T2.out.at; have f3 := T2.out.free 3; dsimp only at d3; go_wp2_with fail; go_ret; rw [HB.out]; refine ⟨rfl, T2.out.set 3 _ (fun _ => rfl) rfl, K2.out.setCell _ _ (by simp)⟩
        · have h16' : decide ((c.flds : Int) + 1 > 16) = false := by simp; omega
          have HB := Lib.hid (hbe.trans (by rw [if_neg h16])); clear hbe hle2 ht h16; go_enter Tryz.func204, Tryz.ntmps204; go_wp2_with fail; refine HL.out.mono ?_; rintro e w1 ⟨rfl, t1, k1⟩; have T1 := Lib.hid t1; have K1 := Lib.hid k1; clear t1 k1; go_wp2_with fail; refine (HP.out _ (hm.keep K1.out (by simpa using hb))).mono ?_; rintro e w2 ⟨rfl, k2⟩; have k3 := k2.alloc (.cells #[.string (S pn), .string (S pw)] 89); have T2 := Lib.hid (T1.out.keep0 k3); have K2 := Lib.hid (K1.out.trans' k3 (by simp)); clear k2 k3; obtain ⟨_, _, _, d3, _, _, _⟩ := T2.out.at; have f3 := T2.out.free 3; dsimp only at d3; go_wp2_with fail; go_ret; rw [HB.out]; refine ⟨rfl, T2.out.set 3 _ (fun _ => rfl) rfl, K2.out.setCell _ _ (by simp)⟩
      · rw [if_pos hp0] at hbe; have hp0' := (int_ne hp0).2; have HB := Lib.hid hbe; clear hbe hle2 ht hp0; go_enter Tryz.func204, Tryz.ntmps204; go_wp2_with fail; refine HL.out.mono ?_; rintro e w1 ⟨rfl, t1, k1⟩; have T1 := Lib.hid t1; have K1 := Lib.hid k1; clear t1 k1; go_wp2_with fail; refine (HP.out _ (hm.keep K1.out (by simpa using hb))).mono ?_; rintro e w2 ⟨rfl, k2⟩; have k3 := k2.alloc (.cells #[.string (S pn), .string (S pw)] 89); have T2 := Lib.hid (T1.out.keep0 k3); have K2 := Lib.hid (K1.out.trans' k3 (by simp)); clear k2 k3; go_wp2_with fail; go_ret; rw [HB.out]; exact ⟨rfl, T2.out, K2.out⟩
  · rw [if_pos h0] at hbe; obtain ⟨rfl, rfl⟩ := hle2 h0; have h0' := (int_ne h0).2; have HB := Lib.hid hbe; clear hbe hle2 h0; go_enter Tryz.func204, Tryz.ntmps204; go_wp2_with fail; refine HL.out.mono ?_; rintro e w1 ⟨rfl, t1, k1⟩; have T1 := Lib.hid t1; have K1 := Lib.hid k1; clear t1 k1; go_wp2_with fail; go_ret; rw [HB.out]; exact ⟨rfl, T1.out, K1.out⟩
set_option maxRecDepth 100000 in
set_option maxHeartbeats 2000000 in
theorem chunk_close (B b : Nat) (p : List UInt8) (c : Ck) (v : Value) (w : World) (h : Ct B w b p c v) (hl : c.inp.length ≤ 1048576) :
    Calls Tryz.prog 203 #[.pointer (some ⟨b, 0, none⟩)] w fun e w' => e = .returned (.int .i64 (closeM c).2) ∧ Ct B w' b p (closeM c).1 v ∧ Keep [b] w w' := by
  have sz := S_size c.inp; obtain ⟨c0, _, _, _, c4, _, _⟩ := h.at; have f0 := h.free 0; have f4 := h.free 4; have H := Lib.hid h; have hbe : closeM c = if c.inp.take 2 ≠ crlfC.take c.inp.length then (c, 3) else if c.inp.length < 2 then (c, 17) else ({ c with inp := c.inp.drop 2, st := 0 }, 0) := rfl
  have hmin : min ((c.inp.length : Nat) : Int) 2 = ((min c.inp.length 2 : Nat) : Int) := by omega
  have e2 : c.inp.take (min c.inp.length 2) = c.inp.take 2 := by
    rcases Nat.le_total c.inp.length 2 with hh | hh
    · rw [Nat.min_eq_left hh, List.take_length, List.take_of_length_le hh]
    · rw [Nat.min_eq_right hh]
  have e3 : crlfC.take (min c.inp.length 2) = crlfC.take c.inp.length := by
    rcases Nat.le_total c.inp.length 2 with hh | hh
    · rw [Nat.min_eq_left hh]
    · rw [Nat.min_eq_right hh, List.take_of_length_le (show crlfC.length ≤ c.inp.length from hh)]; rfl
  have x1 : (S c.inp).extract 0 (min c.inp.length 2) = S (c.inp.take 2) := by rw [S_extract, List.drop_zero, e2]
  have x2 : (⟨#[13, 10]⟩ : ByteArray).extract 0 (min c.inp.length 2) = S (crlfC.take c.inp.length) := by
    have := S_extract crlfC 0 (min c.inp.length 2); rw [List.drop_zero, e3] at this; exact this
  have l1 := S_toList (c.inp.take 2); have l2 := S_toList (crlfC.take c.inp.length); have m2 : min c.inp.length 2 ≤ 2 := Nat.min_le_right _ _; have m1 : min c.inp.length 2 ≤ c.inp.length := Nat.min_le_left _ _; have x3 : (S c.inp).extract 2 c.inp.length = S (c.inp.drop 2) := by rw [S_extract, List.take_length]
  have hd : c.inp.length < 2 ↔ min c.inp.length 2 < 2 := by omega
  have hm2 : ¬ c.inp.length < 2 → min c.inp.length 2 = 2 := by omega
  generalize hmm : min c.inp.length 2 = m at *; have i0 : (0 : Int) ≤ (m : Int) := by omega
  have i1 : (m : Int) ≤ (c.inp.length : Int) := by omega
  have i2 : (m : Int) ≤ 2 := by omega
  clear e2 e3 h hmm; by_cases h1 : c.inp.take 2 = crlfC.take c.inp.length
  · rw [if_neg (by simp [h1])] at hbe; have q1 : (c.inp.take 2 != crlfC.take c.inp.length) = false := by rw [h1]; simp
    have q2 : (c.inp.take 2 == crlfC.take c.inp.length) = true := by rw [h1]; simp
    generalize c.inp.take 2 = A1 at *; generalize crlfC.take c.inp.length = A2 at *; by_cases h2 : c.inp.length < 2
    · rw [if_pos h2] at hbe; have h2' : decide ((m : Int) < 2) = true := by simp; omega
      have HB := Lib.hid hbe; clear hbe h1 h2 hd hm2; go_enter Tryz.func203, Tryz.ntmps203
      go_upto_region 2 with fail
      go_cut [10] (fun y wx => y = .bool false ∧ Hid (Keep [] w wx))
      case first =>
        go_region_with fail
        all_goals
          go_wp2_with fail; go_meet; exact ⟨rfl, Lib.hid (by repeat (first | exact Keep.refl _ _ | apply Keep.drew))⟩
      case rest =>
      obtain ⟨rfl, KX⟩ := hcut; have H1 := Lib.hid (H.out.keep0 KX.out); have K1 := Lib.hid (KX.out.mono (S' := [b]) (by simp)); clear c0 c4 f0 f4 KX; obtain ⟨c0, _, _, _, c4, _, _⟩ := H1.out.at; have f0 := H1.out.free 0; have f4 := H1.out.free 4; go_wp2_with fail; go_ret; rw [HB.out]; exact ⟨rfl, H1.out, K1.out⟩
    · rw [if_neg h2] at hbe; have hm := hm2 h2; subst hm; have HB := Lib.hid hbe; clear hbe h1 hd hm2; go_enter Tryz.func203, Tryz.ntmps203
      go_upto_region 2 with fail
      go_cut [10] (fun y wx => y = .bool false ∧ Hid (Keep [] w wx))
      case first =>
        go_region_with fail
        all_goals
          go_wp2_with fail; go_meet; exact ⟨rfl, Lib.hid (by repeat (first | exact Keep.refl _ _ | apply Keep.drew))⟩
      case rest =>
      obtain ⟨rfl, KX⟩ := hcut; have H1 := Lib.hid (H.out.keep0 KX.out); have K1 := Lib.hid (KX.out.mono (S' := [b]) (by simp)); clear c0 c4 f0 f4 KX; obtain ⟨c0, _, _, _, c4, _, _⟩ := H1.out.at; have f0 := H1.out.free 0; have f4 := H1.out.free 4; go_wp2_with fail; go_ret; rw [HB.out]; exact ⟨rfl, (H1.out.set 4 _ (fun _ => rfl) rfl (c' := { c with inp := c.inp.drop 2 })).set 0 _ (fun _ => rfl) rfl, (K1.out.setCell _ _ (by simp)).setCell _ _ (by simp)⟩
  · rw [if_pos h1] at hbe; have q1 : (c.inp.take 2 != crlfC.take c.inp.length) = true := by simp [h1]
    have q2 : (c.inp.take 2 == crlfC.take c.inp.length) = false := by simp [h1]
    generalize c.inp.take 2 = A1 at *; generalize crlfC.take c.inp.length = A2 at *; have HB := Lib.hid hbe; clear hbe h1 hd hm2; go_enter Tryz.func203, Tryz.ntmps203
    go_upto_region 2 with fail
    go_cut [10] (fun y wx => y = .bool true ∧ Hid (Keep [] w wx))
    case first =>
      go_region_with fail
      all_goals
        go_wp2_with fail; go_meet; exact ⟨rfl, Lib.hid (by repeat (first | exact Keep.refl _ _ | apply Keep.drew))⟩
    case rest =>
    obtain ⟨rfl, KX⟩ := hcut; have H1 := Lib.hid (H.out.keep0 KX.out); have K1 := Lib.hid (KX.out.mono (S' := [b]) (by simp)); clear c0 c4 f0 f4 KX; obtain ⟨c0, _, _, _, c4, _, _⟩ := H1.out.at; have f0 := H1.out.free 0; have f4 := H1.out.free 4; go_wp2_with fail; go_ret; rw [HB.out]; exact ⟨rfl, H1.out, K1.out⟩
theorem Bd.set {B b o : Nat} {T : TypeId} {cs : List Value} {v : Value} {l : List UInt8} {w : World} (h : Bd B w b o T cs v l) (k : Nat) (x : Value) (h1 : k ≠ o) (h2 : k ≠ o + 1) : Bd B (w.setCell ⟨b, k, none⟩ x) b o T (cs.set k x) v l := by
  refine ⟨h.blk.set k x, ?_, ?_, ?_, h.ne⟩
  · rw [List.getElem?_set_ne h1]; exact h.ad
  · rw [List.getElem?_set_ne h2]; exact h.buf
  · exact h.own.keep (S := [b]) ((Keep.refl _ _).setCell _ _ (by simp)) (fun g hg => by
      simp only [List.mem_singleton]; rintro rfl; exact h.ne hg)
def Aft (B : Nat) (w : World) (b : Nat) (p : List UInt8) (v : Value) (c' : Ck) (w' : World) : Prop := ∃ v', Ct B w' b p c' v' ∧ Keep (b :: v.ownBlock.toList) w w' ∧ (v'.ownBlock = v.ownBlock ∨ ∃ g, v'.ownBlock = some g ∧ w.heap.size ≤ g)
theorem Aft.of {B b : Nat} {w w' : World} {p : List UInt8} {v : Value} {c' : Ck} (h : Ct B w' b p c' v) (k : Keep [b] w w') : Aft B w b p v c' w' := ⟨v, h, k.mono (fun x hx _ => by simp at hx; simp [hx]), .inl rfl⟩
theorem Aft.trans {B b : Nat} {w w1 w2 : World} {p : List UInt8} {v v1 v2 : Value} {c1 c2 : Ck} (h : Ct B w1 b p c1 v1) (k : Keep (b :: v.ownBlock.toList) w w1) (hv : v1.ownBlock = v.ownBlock ∨ ∃ g, v1.ownBlock = some g ∧ w.heap.size ≤ g)
    (h2 : Ct B w2 b p c2 v2) (k2 : Keep (b :: v1.ownBlock.toList) w1 w2) (hv2 : v2.ownBlock = v1.ownBlock ∨ ∃ g, v2.ownBlock = some g ∧ w1.heap.size ≤ g) : Aft B w b p v c2 w2 := by
  refine ⟨v2, h2, k.trans' k2 (fun x hx hl => ?_), ?_⟩
  · rcases List.mem_cons.1 hx with rfl | hx
    · simp
    · rcases hv with e | ⟨g, e, hg⟩
      · rw [e] at hx; exact List.mem_cons_of_mem _ hx
      · rw [e] at hx; have : x = g := by simpa using hx
        omega
  · rcases hv2 with e | ⟨g, e, hg⟩
    · rcases hv with e' | ⟨g, e', hg⟩
      · exact .inl (e.trans e')
      · exact .inr ⟨g, e.trans e', hg⟩
    · exact .inr ⟨g, e, Nat.le_trans k.size hg⟩
set_option maxRecDepth 100000 in
set_option maxHeartbeats 2000000 in
theorem chunk_data (B b : Nat) (p : List UInt8) (c : Ck) (v : Value) (w : World) (h : Ct B w b p c v) (hB : B ≤ w.heap.size) (hl : c.inp.length + c.dat.length ≤ 1048576) (hleft : (c.left : Int) ≤ 9223372036854775807) :
    Calls Tryz.prog 202 #[.pointer (some ⟨b, 0, none⟩)] w fun e w' => e = .returned (.int .i64 (dataM c).2) ∧ Aft B w b p v (dataM c).1 w' := by
  have sz := S_size c.inp; obtain ⟨_, c1, _, _, c4, _, _⟩ := h.at; have hmin : min ((c.left : Nat) : Int) ((c.inp.length : Nat) : Int) = ((min c.left c.inp.length : Nat) : Int) := by omega
  have hd := data_eq c _ rfl; have hn1 : min c.left c.inp.length ≤ c.left := Nat.min_le_left _ _; have hn2 : min c.left c.inp.length ≤ c.inp.length := Nat.min_le_right _ _; generalize min c.left c.inp.length = n at *; obtain ⟨ad, o, hbd, hdo⟩ := h; have ho : o.length ≤ c.dat.length := by rw [hdo]; simp
  have H := Lib.hid hbd; have HB := Lib.hid hB; have HD := Lib.hid hd; have HDO := Lib.hid hdo; clear hd hdo hbd hB; have hx1 : (S c.inp).extract 0 n = S (c.inp.take n) := by rw [S_extract, List.drop_zero]
  have hx2 : (S c.inp).extract n c.inp.length = S (c.inp.drop n) := by rw [S_extract, List.take_length]
  have lt : (c.inp.take n).length = n := by rw [List.length_take]; omega
  have i0 : (0 : Int) ≤ (n : Int) := by omega
  have i1 : (n : Int) ≤ (c.inp.length : Int) := by omega
  go_enter Tryz.func202, Tryz.ntmps202
  go_upto_region 1 with fail
  go_cut [3] (fun y wx => y = .int .i64 (n : Nat) ∧ Hid (Keep [] w wx))
  case first =>
    go_region_with fail
    all_goals
      go_wp2_with fail; go_meet; exact ⟨rfl, Lib.hid (by repeat (first | exact Keep.refl _ _ | apply Keep.drew))⟩
  case rest =>
  obtain ⟨rfl, KX⟩ := hcut; have H1 := Lib.hid (H.out.keep KX.out (by simp) (by simp)); have K1 := Lib.hid KX.out; clear c1 c4 hmin KX; have c4 := H1.out.blk.get (k := 4) rfl; have HW := Lib.hid (fun w2 (k2 : Keep [] wc w2) => bld_Write (c.inp.take n) (H1.out.keep k2 (by simp) (by simp)) ck_lies (Nat.le_trans (Nat.le_trans HB.out K1.out.size) k2.size) (by rw [lt]; omega))
  go_upto_region 2 with fail
  go_cut [] (fun wx => Hid (∃ v', Bd B wx b 5 200 (ckC c (.pointer (some ⟨b, 5, none⟩)) v') v' (o ++ c.inp.take n) ∧ Keep (b :: v.ownBlock.toList) w wx ∧ (v'.ownBlock = v.ownBlock ∨ ∃ g, v'.ownBlock = some g ∧ w.heap.size ≤ g)))
  case first =>
    go_region_with (first | (go_at_call 134; refine (HW.out _ (by repeat (first | exact Keep.refl _ _ | apply Keep.drew))).mono ?_; rintro e w2 ⟨rfl, v', hb', hk', hv'⟩; have HX := Lib.hid (And.intro hb' (And.intro hk' hv')); clear hb' hk' hv') | fail)
    all_goals
      go_wp2_with fail; go_meet; refine Lib.hid ?_; obtain ⟨hb', hk', hv'⟩ := HX.out; refine ⟨v', ?_, ?_, ?_⟩
      · exact hb'
      · refine Keep.trans' (Keep.mono (S' := b :: v.ownBlock.toList) (S := []) ?_ (by simp)) hk' (fun x hx _ => hx)
        repeat (first | exact K1.out | apply Keep.drew)
      · rcases hv' with e | ⟨g, e, hg⟩
        · exact .inl e
        · exact .inr ⟨g, e, Nat.le_trans K1.out.size hg⟩
  case rest =>
  have HC := hcut; clear hcut H1 K1 c4 HW hx1; obtain ⟨v', hb, hk, hv⟩ := HC.out; have HN := Lib.hid (And.intro hb (And.intro hk hv)); have c1 := hb.blk.get (k := 1) rfl; have c4 := hb.blk.get (k := 4) rfl; have c7 := hb.blk.get (k := 7) rfl; have c0 := hb.blk.get (k := 0) rfl; have f1 := hb.blk.frozen 1; have f4 := hb.blk.frozen 4; have f7 := hb.blk.frozen 7; have f0 := hb.blk.frozen 0; have w2 := IntWalk.i64_in ((c.dat.length : Int) + (n : Int)) (by omega); have ld : (c.dat ++ c.inp.take n).length = c.dat.length + n := by rw [List.length_append, lt]
  clear hb hk hv HC; have e1 : ((c.left : Int) - (n : Int)) = ((c.left - n : Nat) : Int) := by omega
  have e7 : ((c.dat.length : Int) + (n : Int)) = ((c.dat.length + n : Nat) : Int) := by omega
  have hdat : c.dat ++ c.inp.take n = p ++ (o ++ c.inp.take n) := by rw [HDO.out, List.append_assoc]
  generalize hlf : c.left - n = lf at *; have w1 := IntWalk.i64_in ((lf : Nat) : Int) (by omega); have HE := Lib.hid (And.intro e1 (And.intro e7 (And.intro ld hdat))); clear e7 ld hdat hlf; by_cases h0 : 0 < lf
  · have hd := HD.out; rw [if_pos h0] at hd; have HF := Lib.hid hd; have h0' : decide ((lf : Int) > 0) = true := by simp; omega
    clear hd HD; go_wp2_with fail; go_ret; rw [HF.out]; (try rw [HE.out.2.1, ← HE.out.2.2.1]); refine ⟨rfl, v', ⟨.pointer (some ⟨b, 5, none⟩), o ++ c.inp.take n, ?_, HE.out.2.2.2⟩, ((HN.out.2.1.setCell _ _ (by simp)).setCell _ _ (by simp)).setCell _ _ (by simp), HN.out.2.2⟩; have := ((HN.out.1.set 4 (.string (S (c.inp.drop n))) (by omega) (by omega)).set 1 (.int .i64 ((lf : Nat) : Int)) (by omega) (by omega)).set 7 (.int .i64 ((c.dat.length : Int) + (n : Int))) (by omega) (by omega); rw [HE.out.2.1, ← HE.out.2.2.1] at this; exact this
  · have hd := HD.out; rw [if_neg h0] at hd; have HF := Lib.hid hd; have h0' : decide ((lf : Int) > 0) = false := by simp; omega
    clear hd HD; go_wp2_with fail; go_ret; rw [HF.out]; (try rw [HE.out.2.1, ← HE.out.2.2.1]); refine ⟨rfl, v', ⟨.pointer (some ⟨b, 5, none⟩), o ++ c.inp.take n, ?_, HE.out.2.2.2⟩, (((HN.out.2.1.setCell _ _ (by simp)).setCell _ _ (by simp)).setCell _ _ (by simp)).setCell _ _ (by simp), HN.out.2.2⟩; have := (((HN.out.1.set 4 (.string (S (c.inp.drop n))) (by omega) (by omega)).set 1 (.int .i64 ((lf : Nat) : Int)) (by omega) (by omega)).set 7 (.int .i64 ((c.dat.length : Int) + (n : Int))) (by omega) (by omega)).set 0 (.int .i64 2) (by omega) (by omega); rw [HE.out.2.1, ← HE.out.2.2.1] at this; exact this
set_option maxRecDepth 100000 in
set_option maxHeartbeats 2000000 in
theorem chunk_step (B b : Nat) (p : List UInt8) (c : Ck) (v : Value) (w : World) (hm : ML w) (hb : 1 ≠ b) (h : Ct B w b p c v) (hB : B ≤ w.heap.size) (hl : c.inp.length + c.dat.length ≤ 1048576) (hmost : (c.most : Int) ≤ 9223372036854775807) (hok : c.ok) :
    Calls Tryz.prog 166 #[.pointer (some ⟨b, 0, none⟩)] w fun e w' => e = .returned (.int .i64 (stepM c).2) ∧ Aft B w b p v (stepM c).1 w' := by
  obtain ⟨k1, k2, k3⟩ := hok; obtain ⟨c0, _⟩ := h.at; have hs : stepM c = if c.st = 0 then beginM c else if c.st = 1 then dataM c else if c.st = 2 then closeM c else if c.st = 3 then trailM c else (c, 17) := rfl
  by_cases h0 : c.st = 0
  · have HC := Lib.hid (chunk_begin B b p c v w hm hb h (by omega) hmost (by omega)); rw [if_pos h0] at hs; have HS := Lib.hid hs; rw [h0] at c0; clear hs h; go_enter Tryz.func166, Tryz.ntmps166; go_wp2_with fail; refine HC.out.mono ?_; rintro e w1 ⟨rfl, hx, hk⟩; have HX := Lib.hid (Aft.of hx hk); clear hx hk; go_wp2_with fail; go_ret; rw [HS.out]; exact ⟨rfl, HX.out⟩
  by_cases h1 : c.st = 1
  · have HC := Lib.hid (chunk_data B b p c v w h hB hl (by omega)); rw [if_neg h0, if_pos h1] at hs; have HS := Lib.hid hs; rw [h1] at c0; clear hs h; go_enter Tryz.func166, Tryz.ntmps166; go_wp2_with fail; refine HC.out.mono ?_; rintro e w1 ⟨rfl, hx⟩; have HX := Lib.hid hx; clear hx; go_wp2_with fail; go_ret; rw [HS.out]; exact ⟨rfl, HX.out⟩
  by_cases h2 : c.st = 2
  · have HC := Lib.hid (chunk_close B b p c v w h (by omega)); rw [if_neg h0, if_neg h1, if_pos h2] at hs; have HS := Lib.hid hs; rw [h2] at c0; clear hs h; go_enter Tryz.func166, Tryz.ntmps166; go_wp2_with fail; refine HC.out.mono ?_; rintro e w1 ⟨rfl, hx, hk⟩; have HX := Lib.hid (Aft.of hx hk); clear hx hk; go_wp2_with fail; go_ret; rw [HS.out]; exact ⟨rfl, HX.out⟩
  by_cases h3 : c.st = 3
  · have HC := Lib.hid (chunk_trailer B b p c v w hm hb h (by omega) k2); rw [if_neg h0, if_neg h1, if_neg h2, if_pos h3] at hs; have HS := Lib.hid hs; rw [h3] at c0; clear hs h; go_enter Tryz.func166, Tryz.ntmps166; go_wp2_with fail; refine HC.out.mono ?_; rintro e w1 ⟨rfl, hx, hk⟩; have HX := Lib.hid (Aft.of hx hk); clear hx hk; go_wp2_with fail; go_ret; rw [HS.out]; exact ⟨rfl, HX.out⟩
  · have h4 : c.st = 4 := by omega
    rw [if_neg h0, if_neg h1, if_neg h2, if_neg h3] at hs; have HS := Lib.hid hs; have HX := Lib.hid h; rw [h4] at c0; clear hs h; go_enter Tryz.func166, Tryz.ntmps166; go_wp2_with fail; go_ret; rw [HS.out]; exact ⟨rfl, Aft.of HX.out (Keep.refl _ _)⟩
theorem keep_freeze {S : List Nat} {w w' : World} (h : Keep S w w') {p : Addr} (hp : p.block ∈ S) (n : Nat) : Keep S w (w'.freeze p n) := by
  refine h.trans ?_; unfold World.freeze
  split
  · exact Keep.refl _ _
  · exact ⟨rfl, rfl, rfl, by simp, fun k hk hn => by
      simp only [Array.getElem?_modify]
      rw [if_neg (fun e => hn (by rw [← e]; exact hp))]⟩
set_option maxHeartbeats 8000000 in
set_option maxRecDepth 100000 in
theorem bld_String {B b o : Nat} {T : TypeId} {cs : List Value} {v : Value} {l : List UInt8} {w : World} (h : Bd B w b o T cs v l) :
    Calls Tryz.prog 138 #[.pointer (some ⟨b, o, none⟩)] w fun e w' => e = .returned (.string (S l)) ∧ Keep v.ownBlock.toList w w' := by
  have hown := h.own; unfold Own at hown; rw [rows_bytes] at hown; have hu : Tryz.prog.underlying 204 = some (.pointer 5) := Tryz.underlying204; have mixed : Tryz.prog.follows .mixedOrders = true := by kernel_rfl
  have c0 : w.cell? ⟨b, o + 1, none⟩ = some v := h.blk.get h.buf; have c1 : w.drew.cell? ⟨b, o + 1, none⟩ = some v := c0; rcases hown.2 with ⟨hv, hz⟩ | ⟨g, cap, cur, hv, hbg, hg, hnc, hcm, hcs, htake⟩
  · have hl0 : l = [] := List.eq_nil_of_length_eq_zero hz; subst hv hl0; have hUS := fun (W : World) (q : Option Addr) => Lib.run_unsafeString_none (P := Tryz.prog) W 204 3 9 q
    have hSD : (Builtin.unsafeSliceData_ #[143] 204 #[.slice none 0 0]).run Tryz.prog w.drew = .ok (.pointer none) w.drew := rfl; clear hown h; go_enter Tryz.func138, Tryz.ntmps138; go_wp2_with fail
    go_region_o
    all_goals (go_wp2; go_ret; exact ⟨rfl, (Keep.refl _ _).drew⟩)
  · have hk := hown.cells (g := g); subst hv; by_cases hl0 : l = []
    · subst hl0; have hUS := fun (W : World) (q : Option Addr) => Lib.run_unsafeString_none (P := Tryz.prog) W 204 3 9 q
      by_cases hc0 : cap = 0
      · subst hc0; have hbl := h.blk.lt
        have hSD : (Builtin.unsafeSliceData_ #[143] 204 #[.slice (some ⟨g, 0, none⟩) 0 0]).run Tryz.prog w.drew = .ok (.pointer (some ⟨w.drew.heap.size, 0, none⟩)) (w.drew.alloc (.view ⟨g, 0, none⟩ 5)) :=
          Lib.run_unsafeSliceData_zero w.drew _ _ 5 hu ⟨g, 0, none⟩ 0 (5, cur.size) (by have hg' : w.drew.heap[g]? = some (.cells cur 5 (0, 0)) := hg; simp [World.shape?, hg'])
        have c2 : (w.drew.alloc (.view ⟨g, 0, none⟩ 5)).cell? ⟨b, o + 1, none⟩ = some (.slice (some ⟨g, 0, none⟩) 0 0) := ((((Keep.refl [] w).drew).alloc _).blk h.blk (by simp)).get h.buf; have c3 : (w.alloc (.view ⟨g, 0, none⟩ 5)).drew.cell? ⟨b, o + 1, none⟩ = some (.slice (some ⟨g, 0, none⟩) 0 0) := c2; clear hown h hk; go_enter Tryz.func138, Tryz.ntmps138; go_wp2_with fail
        go_region_o
        all_goals (go_wp2; go_ret; exact ⟨rfl, ((Keep.refl _ _).drew).alloc _⟩)
      · have hSD : (Builtin.unsafeSliceData_ #[143] 204 #[.slice (some ⟨g, 0, none⟩) 0 cap]).run Tryz.prog w.drew = .ok (.pointer (some ⟨g, 0, none⟩)) w.drew :=
          Lib.run_unsafeSliceData_row _ _ _ _ _ _ hc0
        clear hown h hk hc0; go_enter Tryz.func138, Tryz.ntmps138; go_wp2_with fail
        go_region_o
        all_goals (go_wp2; go_ret; exact ⟨rfl, (Keep.refl _ _).drew⟩)
    · have hll : l.length ≠ 0 := by simpa using hl0
      have hSD : (Builtin.unsafeSliceData_ #[143] 204 #[.slice (some ⟨g, 0, none⟩) l.length cap]).run Tryz.prog w.drew = .ok (.pointer (some ⟨g, 0, none⟩)) w.drew :=
        Lib.run_unsafeSliceData_row _ _ _ _ _ _ (by omega)
      have hUS : (Builtin.unsafeString_ #[204, 3] 9 #[.pointer (some ⟨g, 0, none⟩), .int .i64 l.length]).run Tryz.prog w.drew = .ok (.string (S l)) (w.drew.freeze ⟨g, 0, none⟩ l.length) := by
        refine Lib.run_unsafeString_row w.drew 204 3 9 5 hu (by kernel_rfl) g cur.size (by have hg' : w.drew.heap[g]? = some (.cells cur 5 (0, 0)) := hg; simp [World.shape?, hg']) l hl0 (by omega) (by unfold maxLen at hcm; omega) ?_; intro j x hx; have := hk rfl j (.int .u8 x.toNat) (by simp [Lib.byteCells, hx]); exact this
      clear hown h hk hll hl0; go_enter Tryz.func138, Tryz.ntmps138; go_wp2_with fail
      go_region_o
      all_goals (go_wp2; go_ret; exact ⟨rfl, keep_freeze ((Keep.refl _ _).drew) (by simp [Value.ownBlock]) _⟩)
set_option maxHeartbeats 2000000 in
set_option maxRecDepth 100000 in
theorem bld_Reset {b o : Nat} {T : TypeId} {cs : List Value} {w : World} (h : Blk w b T cs) (ho : o + 1 < cs.length) :
    Calls Tryz.prog 236 #[.pointer (some ⟨b, o, none⟩)] w fun e w' => e = .returned (.tuple #[]) ∧ Blk w' b T ((cs.set o (.pointer none)).set (o + 1) (.slice none 0 0)) ∧ Keep [b] w w' := by
  have _take := 220; clear _take; obtain ⟨x, hx⟩ : ∃ x, cs[o]? = some x := ⟨_, List.getElem?_eq_getElem (by omega)⟩
  obtain ⟨y, hy⟩ : ∃ y, cs[o + 1]? = some y := ⟨_, List.getElem?_eq_getElem (by omega)⟩
  have c0 := h.get hx; have f0 := h.frozen o; have h1 := h.set o (.pointer none); have c1 := h1.get (k := o + 1) (v := y) (by rw [List.getElem?_set_ne (by omega)]; exact hy); have f1 := h1.frozen (o + 1); have H := Lib.hid (h1.set (o + 1) (.slice none 0 0)); clear h h1; go_enter Tryz.func236, Tryz.ntmps236; go_wp2_with fail; go_end0; exact ⟨rfl, H.out, ((Keep.refl _ _).setCell _ _ (by simp)).setCell _ _ (by simp)⟩
def ck0 (most : Int) : Ck := ⟨0, 0, (max most 0).toNat, 0, [], [], 0⟩
set_option maxHeartbeats 2000000 in
set_option maxRecDepth 100000 in
theorem chunk_New (B : Nat) (m : Int) (w : World) (_hB : B ≤ w.heap.size) :
    Calls Tryz.prog 116 #[.int .i64 m] w fun e w' => ∃ b, e = .returned (.pointer (some ⟨b, 0, none⟩)) ∧ w.heap.size ≤ b ∧ b < w'.heap.size ∧ Ct B w' b [] (ck0 m) (.slice none 0 0) ∧ Keep [] w w' := by
  have hmx : max m 0 = (((max m 0).toNat : Nat) : Int) := by omega
  have hbk := Blk.newA w (ckC (ck0 m) (.pointer none) (.slice none 0 0)).toArray 200; have H := Lib.hid hbk; have HM := Lib.hid hmx; have hmx2 : max m 0 = ((ck0 m).most : Int) := hmx; generalize hmm : (ck0 m).most = k at *; clear hbk hmx; go_enter Tryz.func116, Tryz.ntmps116; go_wp2_with fail; go_ret; refine ⟨w.heap.size, rfl, Nat.le_refl _, by simp, ⟨.pointer none, [], ⟨?_, .inl rfl, rfl, Own.nil _ _ _ _ _, by simp [Value.ownBlock]⟩, rfl⟩, (Keep.refl [] w).alloc _⟩; have := H.out; subst hmm; exact this
set_option maxHeartbeats 1000000 in
set_option maxRecDepth 100000 in
theorem chunk_Done {B b : Nat} {p : List UInt8} {c : Ck} {v : Value} {w : World} (h : Ct B w b p c v) (_ : c.st ≤ 4) :
    Calls Tryz.prog 119 #[.pointer (some ⟨b, 0, none⟩)] w fun e w' => e = .returned (.bool (decide (c.st = 4))) ∧ w = w' := by
  obtain ⟨c0, _⟩ := h.at; clear h; by_cases h4 : c.st = 4
  · rw [h4] at c0; go_enter Tryz.func119, Tryz.ntmps119; go_wp2_with fail; go_ret; exact ⟨by simp [h4], rfl⟩
  · have h4' := (nat_ne (show c.st ≠ 4 from h4)).1; have h5 := (int_ne (show ((c.st : Nat) : Int) ≠ 4 by omega)).1; have h6 : decide (c.st = 4) = false := by simp [h4]
    have HF := Lib.hid h6; generalize c.st = st at *; go_enter Tryz.func119, Tryz.ntmps119; go_wp2_with fail; go_ret; exact ⟨ret_bool (by simp [h4]), rfl⟩
set_option maxHeartbeats 1000000 in
set_option maxRecDepth 100000 in
theorem chunk_Rest {B b : Nat} {p : List UInt8} {c : Ck} {v : Value} {w : World} (h : Ct B w b p c v) (hs : c.st ≤ 4) :
    Calls Tryz.prog 120 #[.pointer (some ⟨b, 0, none⟩)] w fun e w' => e = .returned (.string (S (if c.st = 4 then c.inp else []))) ∧ w = w' := by
  have HD := Lib.hid (chunk_Done h hs); obtain ⟨_, _, _, _, c4, _, _⟩ := h.at; clear h; by_cases h4 : c.st = 4
  · rw [decide_eq_true h4] at HD; rw [if_pos h4]; go_enter Tryz.func120, Tryz.ntmps120; go_wp2_with fail; refine HD.out.mono ?_; rintro e w1 ⟨rfl, rfl⟩; go_wp2_with fail; go_ret; exact ⟨rfl, rfl⟩
  · rw [decide_eq_false h4] at HD; rw [if_neg h4]; go_enter Tryz.func120, Tryz.ntmps120; go_wp2_with fail; refine HD.out.mono ?_; rintro e w1 ⟨rfl, rfl⟩; go_wp2_with fail; go_ret; exact ⟨rfl, rfl⟩
set_option maxHeartbeats 2000000 in
set_option maxRecDepth 100000 in
theorem chunk_Take {B b : Nat} {p : List UInt8} {c : Ck} {v : Value} {w : World} (h : Ct B w b p c v) :
    Calls Tryz.prog 220 #[.pointer (some ⟨b, 0, none⟩)] w fun e w' => ∃ o, e = .returned (.string (S o)) ∧ c.dat = p ++ o ∧ Ct B w' b c.dat c (.slice none 0 0) ∧ Keep (b :: v.ownBlock.toList) w w' := by
  obtain ⟨ad, o, hb, hd⟩ := h; have HS := Lib.hid (bld_String hb); have HB := Lib.hid hb; have HD := Lib.hid hd; clear hb hd; go_enter Tryz.func220, Tryz.ntmps220; go_wp2_with fail; refine HS.out.mono ?_; rintro e w1 ⟨rfl, k1⟩
  have hb1 : Blk w1 b 200 (ckC c ad v) := k1.blk HB.out.blk (by
    intro hh; have := HB.out.ne; simp at hh; exact this hh)
  have HR := Lib.hid (bld_Reset (o := 5) hb1 (show 5 + 1 < 9 by decide)); have K1 := Lib.hid (k1.mono (S' := b :: v.ownBlock.toList) (fun x hx _ => List.mem_cons_of_mem _ hx)); clear k1 hb1; go_wp2_with fail; refine HR.out.mono ?_; rintro e w2 ⟨rfl, hb2, k2⟩; have HB2 := Lib.hid hb2; have K2 := Lib.hid (K1.out.trans' k2 (fun x hx _ => by simp at hx; simp [hx])); clear hb2 k2; go_wp2_with fail; go_ret; refine ⟨o, rfl, HD.out, ⟨.pointer none, [], ⟨HB2.out, .inl rfl, rfl, Own.nil _ _ _ _ _, by simp [Value.ownBlock]⟩, by simp⟩, K2.out⟩
def AddR (c : Ck) (s : List UInt8) (c' : Ck) : Prop := if c.err ≠ 0 then c' = c else ∃ d e, Runs (c.add s) d e ∧ c' = { d with err := if e = 17 then 0 else e }
theorem add_ok {c : Ck} (h : c.ok) (s : List UInt8) : (c.add s).ok := h
set_option maxHeartbeats 2000000 in
set_option maxRecDepth 100000 in
theorem chunk_Add (B b : Nat) (p s : List UInt8) (c c' : Ck) (v : Value) (w : World) (hm : ML w) (hb : 1 ≠ b) (h : Ct B w b p c v) (hB : B ≤ w.heap.size) (hbig : 1 < B) (hl : c.inp.length + c.dat.length + s.length ≤ 1048576) (hmost : (c.most : Int) ≤ 9223372036854775807) (hok : c.err = 0 → c.ok) (ha : AddR c s c') :
    Calls Tryz.prog 118 #[.pointer (some ⟨b, 0, none⟩), .string (S s)] w fun e w' => e = .returned (.int .i64 c'.err) ∧ Aft B w b p v c' w' := by
  obtain ⟨_, _, _, _, c4, _, c8⟩ := h.at; unfold AddR at ha; by_cases he : c.err = 0
  · rw [if_neg (by simp [he])] at ha; obtain ⟨d, e0, hr, hc'⟩ := ha; have s1 := S_size c.inp; have s2 := S_size s; have hcat := S_append c.inp s; have lc : (c.inp ++ s).length = c.inp.length + s.length := by simp
    have f4 := h.free 4; have hko := hok he; have hro := runs_ok hr (add_ok hko s); have hderr : d.err = 0 := hro.2.2.1.trans he; have H1 := Lib.hid (h.set 4 (.string (S (c.inp ++ s))) (c' := c.add s) (fun _ => rfl) rfl); have K1 := Lib.hid ((Keep.refl [b] w).setCell ⟨b, 4, none⟩ (.string (S (c.inp ++ s))) (by simp)); have HR := Lib.hid hr; have HM := Lib.hid hm; rw [he] at c8; clear h hr hok hm hro; go_enter Tryz.func118, Tryz.ntmps118; go_wp2_with fail; go_step3; go_wp2_with fail; go_step3; go_wp2_with fail; generalize hw1 : w.setCell ⟨b, 4, none⟩ (.string (S (c.inp ++ s))) = w1 at *; (try rw [hw1]); clear hw1 c4 c8 f4
    go_loopg [5] (c.add s).mu (fun g ev wr => ∃ cur : Ck, g = cur.mu ∧ Hid (Aft B w b p v cur wr) ∧ Hid (Runs cur d e0) ∧ Hid (cur.ok) ∧ Hid (cur.inp.length + cur.dat.length ≤ 1048576 ∧ cur.most = c.most ∧ cur.err = 0))
    case atStart => exact ⟨c.add s, rfl, Lib.hid (Aft.of H1.out K1.out), HR, Lib.hid hko, Lib.hid ⟨by show (c.inp ++ s).length + c.dat.length ≤ _; omega, rfl, he⟩⟩
    case round =>
      obtain ⟨cur, hg, HA, HRu, HK, HL⟩ := hrel; obtain ⟨v1, hct, hk, hv⟩ := HA.out; obtain ⟨hl1, hmo, hce⟩ := HL.out; have hso := step_ok HK.out
      have hS := chunk_step B b p cur v1 wr (by
        obtain ⟨x, hx⟩ := HM.out
        exact (ML.keep ⟨x, hx⟩ hk (by
          simp only [List.mem_cons, not_or]; refine ⟨hb, fun hh => ?_⟩; have : v.ownBlock = some 1 := by simpa using hh
          have hlt : B ≤ 1 := by
            obtain ⟨ad, o, hbd, _⟩ := H1.out; exact (hbd.own.lt _ this).1
          omega))) hb hct (Nat.le_trans hB hk.size) hl1 (by rw [hmo]; exact hmost) HK.out
      have HS := Lib.hid hS; have HCt := Lib.hid (And.intro hct (And.intro hk hv))
      have HRc := Lib.hid (show (stepM cur).2 = 0 ∧ Runs (stepM cur).1 d e0 ∨ (stepM cur).2 ≠ 0 ∧ d = (stepM cur).1 ∧ e0 = (stepM cur).2 by
        cases HRu.out with
        | stop hh => exact .inr ⟨hh, rfl, rfl⟩
        | more hh hh2 => exact .inl ⟨hh, hh2⟩)
      have HSo := Lib.hid hso; generalize hst : stepM cur = sr at HS HRc HSo; obtain ⟨nx, er⟩ := sr; dsimp only at HS HRc HSo; clear hso hS hct hk hv HA HRu hst hl1 hmo hce; by_cases h0 : er = 0
      · subst h0
        have hR2 : Runs nx d e0 := by
          rcases HRc.out with hh | hh
          · exact hh.2
          · exact absurd rfl hh.1
        have HR2 := Lib.hid hR2; clear hR2; go_wp2_with fail; refine HS.out.mono ?_; rintro e w2 ⟨rfl, v2, a1, a2, a3⟩; have HA2 := Lib.hid (Aft.trans HCt.out.1 HCt.out.2.1 HCt.out.2.2 a1 a2 a3); clear a1 a2 a3; go_wp2_with fail
        go_roundg nx.mu
        case measure => rw [hg]; exact HSo.out.1 (by first | rfl | trivial)
        case rel =>
          obtain ⟨q1, q2, q3, q4, q5, _⟩ := HSo.out; exact ⟨nx, rfl, HA2, HR2, Lib.hid (q2 (.inl (by first | rfl | trivial))), Lib.hid ⟨Nat.le_trans q5 HL.out.1, q3.trans HL.out.2.1, q4.trans HL.out.2.2⟩⟩
      · have hde : d = nx ∧ e0 = er := by
          rcases HRc.out with hh | hh
          · exact absurd hh.1 h0
          · exact hh.2
        obtain ⟨rfl, rfl⟩ := hde; by_cases h17 : e0 = 17
        · subst h17; have HC := Lib.hid (show c' = d by rw [hc', if_pos rfl, ← hderr]); clear hc'; go_wp2_with fail; refine HS.out.mono ?_; rintro e w2 ⟨rfl, v2, a1, a2, a3⟩; have HA2 := Lib.hid (Aft.trans HCt.out.1 HCt.out.2.1 HCt.out.2.2 a1 a2 a3); obtain ⟨_, _, _, _, _, _, e8⟩ := a1.at; clear a1 a2 a3; go_wp2_with fail; rw [Exit.noGoto_ret]; go_ret; rw [HC.out]; exact ⟨by rw [hderr]; rfl, HA2.out⟩
        · have q1 := (int_ne h0).1; have q2 := (int_ne h17).1; have HC := Lib.hid (show c' = { d with err := e0 } by rw [hc', if_neg h17]); clear hc' h17 h0; go_wp2_with fail; refine HS.out.mono ?_; rintro e w2 ⟨rfl, v2, a1, a2, a3⟩; have HA2 := Lib.hid (Aft.trans HCt.out.1 HCt.out.2.1 HCt.out.2.2 a1 a2 a3); obtain ⟨_, _, _, _, _, _, e8⟩ := a1.at; have g8 := a1.free 8; clear a1 a2 a3; go_wp2_with fail; rw [Exit.noGoto_ret]; go_ret; obtain ⟨v3, a1, a2, a3⟩ := HA2.out; rw [HC.out]; exact ⟨rfl, v3, a1.set 8 _ (fun _ => rfl) rfl, a2.setCell _ _ (by simp), a3⟩
  · rw [if_pos he] at ha; have q1 := (int_ne he).1; have q2 := (int_ne he).2; have H := Lib.hid h; subst ha; clear h; go_enter Tryz.func118, Tryz.ntmps118; go_wp2_with fail; go_step3; go_wp2_with fail; rw [Exit.noGoto_ret]; go_ret; exact ⟨rfl, Aft.of H.out (Keep.refl _ _)⟩
def runF : Nat → Ck → Ck × Int
  | 0, c => stepM c
  | n + 1, c => if (stepM c).2 = 0 then runF n (stepM c).1 else stepM c
theorem runF_runs : ∀ (n : Nat) (c : Ck), c.ok → c.mu ≤ n → Runs c (runF n c).1 (runF n c).2
  | n, c, h, hn => by
    by_cases h0 : (stepM c).2 = 0
    · have hs := step_ok h; have hm := hs.1 h0
      match n, hn with
      | 0, hn => omega
      | n + 1, hn =>
        have hr := runF_runs n (stepM c).1 (hs.2.1 (.inl h0)) (by omega); rw [runF, if_pos h0]; exact .more h0 hr
    · match n, hn with
      | 0, hn => rw [runF]; exact .stop h0
      | n + 1, hn => rw [runF, if_neg h0]; exact .stop h0
def addC (c : Ck) (s : List UInt8) : Ck := if c.err ≠ 0 then c else { (runF (c.add s).mu (c.add s)).1 with err := if (runF (c.add s).mu (c.add s)).2 = 17 then 0 else (runF (c.add s).mu (c.add s)).2 }
theorem addC_R {c : Ck} {s : List UInt8} (h : c.err = 0 → c.ok) : AddR c s (addC c s) := by
  unfold AddR addC; by_cases h0 : c.err = 0
  · rw [if_neg (by simp [h0]), if_neg (by simp [h0])]; exact ⟨_, _, runF_runs _ _ (add_ok (h h0) s) (Nat.le_refl _), rfl⟩
  · rw [if_pos h0, if_pos h0]
theorem ML.keepB {B : Nat} {w w' : World} {X : List Nat} (hm : ML w) (hbig : 1 < B) (k : Keep X w w') (hX : ∀ x ∈ X, B ≤ x) : ML w' := hm.keep k (fun hh => absurd (hX _ hh) (by omega))
theorem ML.lt {w : World} (hm : ML w) : 1 < w.heap.size := let ⟨_, h⟩ := hm; World.block_lt_of_cell? w _ h
theorem Keep.above {w0 w w' : World} {X : List Nat} (h : Keep [] w0 w) (k : Keep X w w') (hX : ∀ x ∈ X, w0.heap.size ≤ x) : Keep [] w0 w' := h.trans' k (fun x hx hl => absurd (hX x hx) (by omega))
def nTE : List UInt8 := [84, 114, 97, 110, 115, 102, 101, 114, 45, 69, 110, 99, 111, 100, 105, 110, 103]
def nCL : List UInt8 := [67, 111, 110, 116, 101, 110, 116, 45, 76, 101, 110, 103, 116, 104]
def nChunked : List UInt8 := [99, 104, 117, 110, 107, 101, 100]
structure Frm where
  n : Int
  ch : Bool
  e : Int
def frameM (L : List Fld) (most : Int) : Frm :=
  if 1 < getN L nTE ∨ 1 < getN L nCL ∨ 1 < getN L nTE + getN L nCL then ⟨0, false, 3⟩
  else if getN L nTE = 1 then (if lowW (getV L nTE) = nChunked then ⟨0, true, 0⟩ else ⟨0, false, 3⟩)
  else if getN L nCL = 0 then ⟨-1, false, 0⟩
  else ⟨undecV (getV L nCL) most, false, if undecE (getV L nCL) most = 14 then 4 else undecE (getV L nCL) most⟩
theorem frm_ret {a c : Int} {b d : Bool} {x y : Int} (h : a = c) (h2 : b = d) (h3 : x = y) : Ending.returned (.tuple #[.int .i64 a, .bool b, .int .i64 x]) = .returned (.tuple #[.int .i64 c, .bool d, .int .i64 y]) := by rw [h, h2, h3]
theorem getV_len {L : List Fld} {n : List UInt8} {m : Nat} (h : ∀ x ∈ L, x.value.length ≤ m) : (getV L n).length ≤ m := by
  unfold getV
  cases hg : getS L n with
  | nil => simp
  | cons f r =>
    have : f ∈ getS L n := by rw [hg]; simp
    exact h f (List.mem_filter.1 this).1
set_option maxRecDepth 100000 in
set_option maxHeartbeats 1000000 in
theorem field_Frame (va : Value) (L : List Fld) (most : Int) (w : World) (ha : Sl Fld.cells 2 w va L) (hg : ∀ x ∈ L, x.name.length ≤ maxLen) (hv : ∀ x ∈ L, x.value.length ≤ maxLen) (_ : L.length ≤ 4611686018427387904) :
    Calls Tryz.prog 115 #[va, .int .i64 most] w fun e w' => e = .returned (.tuple #[.int .i64 (frameM L most).n, .bool (frameM L most).ch, .int .i64 (frameM L most).e]) ∧ Keep [] w w' := by
  have HG1 := Lib.hid (field_Get va L nTE w ha hg (by decide)); have HG2 := Lib.hid (fun w1 (k : Keep [] w w1) => field_Get va L nCL w1 (ha.keep Fld.cells_length (by omega) ha k (by simp) (Nat.le_refl _)) hg (by decide)); have hL := fun w1 => field_low (getV L nTE) w1 (getV_len hv)
  have hU := fun w1 => hexa_Undec (getV L nCL) most w1 (getV_len hv)
  have hF : frameM L most = if 1 < getN L nTE ∨ 1 < getN L nCL ∨ 1 < getN L nTE + getN L nCL then ⟨0, false, 3⟩
    else if getN L nTE = 1 then (if lowW (getV L nTE) = nChunked then ⟨0, true, 0⟩ else ⟨0, false, 3⟩)
    else if getN L nCL = 0 then ⟨-1, false, 0⟩
    else ⟨undecV (getV L nCL) most, false, if undecE (getV L nCL) most = 14 then 4 else undecE (getV L nCL) most⟩ := rfl
  have b1 := getN_le L nTE; have b2 := getN_le L nCL; unfold GetOut at HG1 HG2; generalize frameM L most = f at hF; generalize getV L nTE = tv at hL hF HG1; generalize getV L nCL = cv at hU hF HG2; generalize getN L nTE = tn at hF b1 HG1; generalize getN L nCL = cn at hF b2 HG2; obtain ⟨fn, fc, fe⟩ := f; dsimp only; clear ha hg hv; by_cases h1 : 1 < tn ∨ 1 < cn ∨ 1 < tn + cn
  · rw [if_pos h1] at hF; have HF := Lib.hid hF; clear hF hL hU; by_cases t1 : 1 < tn
    · clear h1; go_enter Tryz.func115, Tryz.ntmps115; go_wp2_with fail; refine HG1.out.mono ?_; rintro e w1 ⟨rfl, hk1⟩; have K1 := Lib.hid hk1; clear hk1; go_wp2_with fail; refine (HG2.out _ K1.out).mono ?_; rintro e w2 ⟨rfl, hk2⟩; have K2 := Lib.hid (K1.out.trans hk2); clear hk2; go_wp2_with fail; go_ret3; exact ⟨frm_ret (by cases HF.out; rfl) (by cases HF.out; rfl) (by cases HF.out; rfl), K2.out⟩
    · by_cases t2 : 1 < cn
      · clear h1; go_enter Tryz.func115, Tryz.ntmps115; go_wp2_with fail; refine HG1.out.mono ?_; rintro e w1 ⟨rfl, hk1⟩; have K1 := Lib.hid hk1; clear hk1; go_wp2_with fail; refine (HG2.out _ K1.out).mono ?_; rintro e w2 ⟨rfl, hk2⟩; have K2 := Lib.hid (K1.out.trans hk2); clear hk2; go_wp2_with fail; go_ret3; exact ⟨frm_ret (by cases HF.out; rfl) (by cases HF.out; rfl) (by cases HF.out; rfl), K2.out⟩
      · have t3 : 1 < tn + cn := by omega
        clear h1; go_enter Tryz.func115, Tryz.ntmps115; go_wp2_with fail; refine HG1.out.mono ?_; rintro e w1 ⟨rfl, hk1⟩; have K1 := Lib.hid hk1; clear hk1; go_wp2_with fail; refine (HG2.out _ K1.out).mono ?_; rintro e w2 ⟨rfl, hk2⟩; have K2 := Lib.hid (K1.out.trans hk2); clear hk2; go_wp2_with fail; go_ret3; exact ⟨frm_ret (by cases HF.out; rfl) (by cases HF.out; rfl) (by cases HF.out; rfl), K2.out⟩
  · rw [if_neg h1] at hF; have t1 : tn ≤ 1 := by omega
    have t2 : cn ≤ 1 := by omega
    have t3 : tn + cn ≤ 1 := by omega
    clear h1; by_cases t4 : tn = 1
    · rw [if_pos t4] at hF; obtain ⟨q1, q2⟩ := int_eq (show ((tn : Nat) : Int) = 1 by omega); have q5 := S_toList (lowW tv); by_cases hc : lowW tv = nChunked
      · rw [if_pos hc] at hF; have q3 : (lowW tv == [99, 104, 117, 110, 107, 101, 100]) = true := by rw [hc]; rfl
        have q4 : (lowW tv != [99, 104, 117, 110, 107, 101, 100]) = false := by rw [hc]; rfl
        have HF := Lib.hid hF; have HL := Lib.hid hL; clear hF hL hU t4 hc; go_enter Tryz.func115, Tryz.ntmps115; go_wp2_with fail; refine HG1.out.mono ?_; rintro e w1 ⟨rfl, hk1⟩; have K1 := Lib.hid hk1; clear hk1; go_wp2_with fail; refine (HG2.out _ K1.out).mono ?_; rintro e w2 ⟨rfl, hk2⟩; have K2 := Lib.hid (K1.out.trans hk2); clear hk2; go_wp2_with fail; refine (HL.out _).mono ?_; rintro e w3 ⟨rfl, hk3⟩; have K3 := Lib.hid (K2.out.trans hk3); clear hk3; go_wp2_with fail; go_ret3; exact ⟨frm_ret (by cases HF.out; rfl) (by cases HF.out; rfl) (by cases HF.out; rfl), K3.out⟩
      · rw [if_neg hc] at hF; have q3 : (lowW tv == [99, 104, 117, 110, 107, 101, 100]) = false := beq_eq_false_iff_ne.2 hc; have q4 : (lowW tv != [99, 104, 117, 110, 107, 101, 100]) = true := bne_iff_ne.2 hc; have HF := Lib.hid hF; have HL := Lib.hid hL; clear hF hL hU t4 hc; go_enter Tryz.func115, Tryz.ntmps115; go_wp2_with fail; refine HG1.out.mono ?_; rintro e w1 ⟨rfl, hk1⟩; have K1 := Lib.hid hk1; clear hk1; go_wp2_with fail; refine (HG2.out _ K1.out).mono ?_; rintro e w2 ⟨rfl, hk2⟩; have K2 := Lib.hid (K1.out.trans hk2); clear hk2; go_wp2_with fail; refine (HL.out _).mono ?_; rintro e w3 ⟨rfl, hk3⟩; have K3 := Lib.hid (K2.out.trans hk3); clear hk3; go_wp2_with fail; go_ret3; exact ⟨frm_ret (by cases HF.out; rfl) (by cases HF.out; rfl) (by cases HF.out; rfl), K3.out⟩
    · rw [if_neg t4] at hF; obtain ⟨q1, q2⟩ := int_ne (show ((tn : Nat) : Int) ≠ 1 by omega); by_cases t5 : cn = 0
      · rw [if_pos t5] at hF; obtain ⟨q3, q4⟩ := int_eq (show ((cn : Nat) : Int) = 0 by omega); have HF := Lib.hid hF; clear hF hL hU t4 t5; go_enter Tryz.func115, Tryz.ntmps115; go_wp2_with fail; refine HG1.out.mono ?_; rintro e w1 ⟨rfl, hk1⟩; have K1 := Lib.hid hk1; clear hk1; go_wp2_with fail; refine (HG2.out _ K1.out).mono ?_; rintro e w2 ⟨rfl, hk2⟩; have K2 := Lib.hid (K1.out.trans hk2); clear hk2; go_wp2_with fail; go_ret3; exact ⟨frm_ret (by cases HF.out; rfl) (by cases HF.out; rfl) (by cases HF.out; rfl), K2.out⟩
      · rw [if_neg t5] at hF; obtain ⟨q3, q4⟩ := int_ne (show ((cn : Nat) : Int) ≠ 0 by omega); generalize undecV cv most = uv at hF hU; generalize undecE cv most = ue at hF hU; have HU := Lib.hid hU; by_cases h14 : ue = 14
        · rw [if_pos h14] at hF; obtain ⟨q5, q6⟩ := int_eq h14; have HF := Lib.hid hF; clear hF hL hU t4 t5 h14; go_enter Tryz.func115, Tryz.ntmps115; go_wp2_with fail; refine HG1.out.mono ?_; rintro e w1 ⟨rfl, hk1⟩; have K1 := Lib.hid hk1; clear hk1; go_wp2_with fail; refine (HG2.out _ K1.out).mono ?_; rintro e w2 ⟨rfl, hk2⟩; have K2 := Lib.hid (K1.out.trans hk2); clear hk2; go_wp2_with fail; refine (HU.out _).mono ?_; rintro e w3 ⟨rfl, hk3⟩; have K3 := Lib.hid (K2.out.trans hk3); clear hk3; go_wp2_with fail; go_ret3; exact ⟨frm_ret (by cases HF.out; rfl) (by cases HF.out; rfl) (by cases HF.out; rfl), K3.out⟩
        · rw [if_neg h14] at hF; obtain ⟨q5, q6⟩ := int_ne h14; have HF := Lib.hid hF; clear hF hL hU t4 t5 h14; go_enter Tryz.func115, Tryz.ntmps115; go_wp2_with fail; refine HG1.out.mono ?_; rintro e w1 ⟨rfl, hk1⟩; have K1 := Lib.hid hk1; clear hk1; go_wp2_with fail; refine (HG2.out _ K1.out).mono ?_; rintro e w2 ⟨rfl, hk2⟩; have K2 := Lib.hid (K1.out.trans hk2); clear hk2; go_wp2_with fail; refine (HU.out _).mono ?_; rintro e w3 ⟨rfl, hk3⟩; have K3 := Lib.hid (K2.out.trans hk3); clear hk3; go_wp2_with fail; go_ret3; exact ⟨frm_ret (by cases HF.out; rfl) (by cases HF.out; rfl) (by cases HF.out; rfl), K3.out⟩
def nConn : List UInt8 := [67, 111, 110, 110, 101, 99, 116, 105, 111, 110]
def nClose : List UInt8 := [99, 108, 111, 115, 101]
def nKeep : List UInt8 := [107, 101, 101, 112, 45, 97, 108, 105, 118, 101]
def closeL : List (List UInt8) → Bool → Bool
  | [], k => !k
  | x :: r, k => if lowW x = nClose then true else closeL r (k || decide (lowW x = nKeep))
def closesM (L : List Fld) (minor : Int) : Bool := closeL (elsM L nConn) (decide (1 ≤ minor))
theorem els_elem {L : List Fld} {n x : List UInt8} {m : Nat} (hg : ∀ f ∈ L, f.value.length ≤ m) (h : x ∈ elsM L n) : x.length ≤ m := by
  unfold elsM at h; obtain ⟨f, hf, hx⟩ := List.mem_flatMap.1 h; have h1 := (List.mem_filter.1 hf).1; have h2 := (List.mem_filter.1 hx).1; exact Nat.le_trans (cutW_elem h2) (hg f h1)
set_option maxRecDepth 100000 in
set_option maxHeartbeats 1000000 in
theorem field_Closes (va : Value) (L : List Fld) (minor : Int) (w : World) (ha : Sl Fld.cells 2 w va L) (hg : ∀ x ∈ L, x.name.length ≤ 1048576 ∧ x.value.length ≤ 1048576) (hl : L.length ≤ 1024) :
    Calls Tryz.prog 117 #[va, .int .i64 minor] w fun e w' => e = .returned (.bool (closesM L minor)) ∧ Keep [] w w' := by
  have hE := field_Elements va L nConn w ha hg (by decide) hl; have hC : closesM L minor = closeL (elsM L nConn) (decide (1 ≤ minor)) := rfl; have hel : ∀ x ∈ elsM L nConn, x.length ≤ 1048576 := fun x hx => els_elem (fun f hf => (hg f hf).2) hx
  generalize elsM L nConn = M at hE hC hel; generalize closesM L minor = res at hC; have HE := Lib.hid hE; have HC := Lib.hid hC; have HEL := Lib.hid hel; have HLW := Lib.hid (fun (x : List UInt8) (h : x.length ≤ 1048576) (w1 : World) => field_low x w1 (show x.length ≤ 9223372036854775807 by omega)); clear hE hC hel ha hg; generalize hdec : decide (1 ≤ minor) = kp0 at HC; have hmin : (decide ((1 : Int) ≤ minor)) = kp0 := hdec; go_enter Tryz.func117, Tryz.ntmps117; go_wp2_with fail; refine HE.out.mono ?_; rintro e w1 ⟨pv, rfl, ho1, hk1⟩; obtain ⟨pa, pc, rfl, hml⟩ := ho1.shape; have hml' : M.length ≤ 9223372036854775807 := hml; have HO := Lib.hid ho1; have K1 := Lib.hid hk1; clear ho1 hk1 hml hdec; go_wp2_with fail; clear hmin
  go_loopg [5, 13] M.length (fun g kv j wr => ∃ (k : Nat) (b : Bool), j = .int .i64 k ∧ kv = .bool b ∧ k ≤ M.length ∧ g = M.length - k ∧ Hid (Own strC 1 w.heap.size 9 wr (.slice pa M.length pc) M) ∧ Hid (Keep [] w wr) ∧ Hid (res = closeL (M.drop k) b))
  case atStart => exact ⟨0, _, rfl, rfl, by omega, by omega, HO, K1, HC⟩
  case round =>
    obtain ⟨k, b, rfl, rfl, hk, rfl, HO, HK, HF⟩ := hrel; by_cases hlt : k < M.length
    · obtain ⟨x, hx⟩ : ∃ x, M[k]? = some x := ⟨_, List.getElem?_eq_getElem hlt⟩
      have HL := Lib.hid (HLW.out x (HEL.out x (List.mem_of_getElem? hx))); obtain ⟨b1, o1, c1, hv1, _, hc1, hx1⟩ := (HO.out.sl strC_length).cell hx; cases hv1; have hc1' : pc ≤ 9223372036854775807 := hc1; have e0 := hx1 0 (by omega); simp only [strC, List.getElem?_cons_zero, Nat.mul_one, Nat.add_zero] at e0; have hF := HF.out; rw [drop_atG hx, closeL] at hF; have ht := S_toList (lowW x); clear hx1 hx HF hc1; by_cases h1 : lowW x = nClose
      · rw [if_pos h1] at hF; have q1 : (lowW x == [99, 108, 111, 115, 101]) = true := by rw [h1]; rfl
        have HF := Lib.hid hF; clear hF h1; go_wp2_with fail; refine (HL.out _).mono ?_; rintro e w2 ⟨rfl, hk2⟩; have K2 := Lib.hid (HK.out.trans hk2); clear hk2; go_wp2_with fail; go_ret; exact ⟨ret_bool HF.out.symm, K2.out⟩
      · rw [if_neg h1] at hF; have q1 : (lowW x == [99, 108, 111, 115, 101]) = false := beq_eq_false_iff_ne.2 h1; by_cases h2 : lowW x = nKeep
        · have q2 : (lowW x == [107, 101, 101, 112, 45, 97, 108, 105, 118, 101]) = true := by rw [h2]; rfl
          have HF : Hid (res = closeL (M.drop (k + 1)) true) := by rw [Hid, hF]; simp [h2]
          clear hF h1 h2; go_wp2_with fail; refine (HL.out _).mono ?_; rintro e w2 ⟨rfl, hk2⟩; have K2 := Lib.hid (HK.out.trans hk2); have O2 := Lib.hid (HO.out.keep0 hk2); clear hk2; go_wp2_with fail
          go_roundg (M.length - (k + 1))
          case measure => omega
          case rel => exact ⟨k + 1, true, by go_num, rfl, by omega, rfl, O2, K2, HF⟩
        · have q2 : (lowW x == [107, 101, 101, 112, 45, 97, 108, 105, 118, 101]) = false := beq_eq_false_iff_ne.2 h2; have HF : Hid (res = closeL (M.drop (k + 1)) b) := by rw [Hid, hF]; simp [h2]
          clear hF h1 h2; go_wp2_with fail; refine (HL.out _).mono ?_; rintro e w2 ⟨rfl, hk2⟩; have K2 := Lib.hid (HK.out.trans hk2); have O2 := Lib.hid (HO.out.keep0 hk2); clear hk2; go_wp2_with fail
          go_roundg (M.length - (k + 1))
          case measure => omega
          case rel => exact ⟨k + 1, b, by go_num, rfl, by omega, rfl, O2, K2, HF⟩
    · have hF := HF.out; rw [List.drop_eq_nil_of_le (by omega), closeL] at hF; have HF2 := Lib.hid hF; clear hF HF; go_wp2_with fail; go_ret; exact ⟨ret_bool HF2.out.symm, HK.out⟩
end Go.Proofs.YtlhnjkekjbbhcaaGreatDoor
namespace Go.Proofs.YtlhnjkekjbbhcaaGreatDoor
open Go.RowKit
def nHost : List UInt8 := [72, 111, 115, 116]
end Go.Proofs.YtlhnjkekjbbhcaaGreatDoor
namespace Go.Proofs.YtlhnjkekjbbhcaaGreatDoor
open Go.RowKit Go.Shelf
theorem Ct.lt {B b : Nat} {w : World} {p : List UInt8} {c : Ck} {v : Value} (h : Ct B w b p c v) : b < w.heap.size := let ⟨_, h1⟩ := h.cells; h1.lt
end Go.Proofs.YtlhnjkekjbbhcaaGreatDoor
namespace Go.Proofs.YtlhnjkekjbbhcaaGreatDoor
open Go.RowKit
structure Ans where
  st : Int
  F : List Fld
  len : Int
  ch : Bool
  cl : Bool
def ans0 : Ans := ⟨0, [], 0, false, false⟩
structure ReS where
  head : Bool
  most : Nat
  st : Nat
  inp : List UInt8
  dat : List UInt8
  left : Nat
  size : Nat
  passed : Nat
  chk : Option Ck
  ans : Option Ans
  shut : Bool
  ended : Bool
def reNew (head : Bool) (most : Int) : ReS := ⟨head, (max most 0).toNat, 0, [], [], 0, 0, 0, none, none, false, false⟩
def reAdd (p : ReS) (s : List UInt8) : ReS × Int :=
  if (16384 : Int) - p.inp.length - p.dat.length < s.length then (p, 6) else if p.shut || p.st == 5 then (p, 0) else ({ p with inp := p.inp ++ s }, 0)
def reShut (p : ReS) : ReS := { p with shut := true }
def reFail (p : ReS) : ReS := { p with st := 5 }
def noBody (s : Int) (head : Bool) : Bool := head || (decide (100 ≤ s) && decide (s < 200)) || decide (s = 204) || decide (s = 304)
structure FrR where
  p : ReS
  a : Ans
  ok : Bool
def reFrame (p : ReS) (a : Ans) : FrR :=
  if noBody a.st p.head then ⟨{ p with st := 4 }, { a with len := max (frameM a.F 1048576).n 0 }, true⟩
  else if (frameM a.F p.most).e ≠ 0 then ⟨p, a, false⟩
  else if (frameM a.F p.most).ch then ⟨{ p with st := 1, chk := some (ck0 p.most) }, { a with ch := true }, true⟩
  else if (frameM a.F p.most).n < 0 then ⟨{ p with st := 3 }, { a with len := (frameM a.F p.most).n, cl := true }, true⟩
  else ⟨{ p with st := 2, left := (frameM a.F p.most).n.toNat }, { a with len := (frameM a.F p.most).n }, true⟩
def headA (p : ReS) : Ans := ⟨(slM (splitM p.inp).st).n, (splitM p.inp).F, 0, false, closesM (splitM p.inp).F (slM (splitM p.inp).st).v⟩
def headP (p : ReS) : ReS := { p with inp := p.inp.drop (splitM p.inp).n }
def readHeadR (p : ReS) : ReS × Bool :=
  if (splitM p.inp).e = 17 then (p, false)
  else if (splitM p.inp).e ≠ 0 ∨ (slM (splitM p.inp).st).ok = false ∨ (slM (splitM p.inp).st).n = 101 then (reFail p, true)
  else if (slM (splitM p.inp).st).n < 200 then (if 5 < p.passed + 1 then (reFail { headP p with passed := p.passed + 1 }, true) else ({ headP p with passed := p.passed + 1 }, true))
  else if (reFrame (headP p) (headA p)).ok then ({ (reFrame (headP p) (headA p)).p with ans := some (reFrame (headP p) (headA p)).a }, true)
  else (reFail (headP p), true)
def readLengthR (p : ReS) : ReS × Bool :=
  if p.left - min p.left p.inp.length = 0 then ({ p with dat := p.dat ++ p.inp.take (min p.left p.inp.length), inp := p.inp.drop (min p.left p.inp.length), left := 0, st := 4 }, true)
  else ({ p with dat := p.dat ++ p.inp.take (min p.left p.inp.length), inp := p.inp.drop (min p.left p.inp.length), left := p.left - min p.left p.inp.length }, decide (0 < min p.left p.inp.length))
def closeP (p : ReS) : ReS := { p with dat := p.dat ++ p.inp.take (min (p.most - p.size) p.inp.length), size := p.size + min (p.most - p.size) p.inp.length, inp := p.inp.drop (min (p.most - p.size) p.inp.length) }
def readCloseR (p : ReS) : ReS × Bool :=
  if (closeP p).inp ≠ [] then (reFail (closeP p), true)
  else if p.shut then ({ closeP p with st := 4 }, true)
  else (closeP p, decide (0 < min (p.most - p.size) p.inp.length))
def reFinish (p : ReS) : ReS × Int :=
  if p.st = 4 then ({ p with ended := true }, 3) else if p.st == 5 || p.shut then (reFail p, 4) else (p, 0)
def reRest (p : ReS) : List UInt8 := if p.ended then p.inp else []
end Go.Proofs.YtlhnjkekjbbhcaaGreatDoor
namespace Go.Proofs.YtlhnjkekjbbhcaaGreatDoor
open Go.RowKit Go.Shelf
def acceptB : List UInt8 := [65, 99, 99, 101, 112, 116]
def inmB : List UInt8 := [73, 102, 45, 78, 111, 110, 101, 45, 77, 97, 116, 99, 104]
def methHead : List UInt8 := [72, 69, 65, 68]
def methGet : List UInt8 := [71, 69, 84]
def ctB : List UInt8 := [67, 111, 110, 116, 101, 110, 116, 45, 84, 121, 112, 101]
def dcdB : List UInt8 := [68, 111, 99, 107, 101, 114, 45, 67, 111, 110, 116, 101, 110, 116, 45, 68, 105, 103, 101, 115, 116]
def ctL : List UInt8 := [99, 111, 110, 116, 101, 110, 116, 45, 116, 121, 112, 101]
def dcdL : List UInt8 := [100, 111, 99, 107, 101, 114, 45, 99, 111, 110, 116, 101, 110, 116, 45, 100, 105, 103, 101, 115, 116]
def accB : List UInt8 := [97, 112, 112, 108, 105, 99, 97, 116, 105, 111, 110, 47, 118, 110, 100, 46, 111, 99, 105, 46, 105, 109, 97, 103, 101, 46, 109, 97, 110, 105, 102, 101, 115, 116, 46, 118, 49, 43, 106, 115, 111, 110, 44, 32, 97, 112, 112, 108, 105, 99, 97, 116, 105, 111, 110, 47, 118, 110, 100, 46, 111, 99, 105, 46, 105, 109, 97, 103, 101, 46, 105, 110, 100, 101, 120, 46, 118, 49, 43, 106, 115, 111, 110, 44, 32, 42, 47, 42, 59, 113, 61, 48, 46, 53]
def goodKyM (k : Ky) : Bool := isRepoM k.repo && (if k.kind = 1 then isTagM k.tag && (decide (k.dig = zeroD) && !k.blob) else decide (k.kind = 2 ∨ k.kind = 3) && k.tag.isEmpty)
def routeM (k : Ky) : Rt := ⟨if k.kind = 1 then 2 else if k.blob = true then 4 else 3, k.repo, k.tag, k.dig⟩
theorem route_good {k : Ky} (h : goodKyM k = true) : goodRtM (routeM k) = true := by
  unfold goodKyM at h; rw [Bool.and_eq_true] at h; obtain ⟨h1, h2⟩ := h; by_cases hk : k.kind = 1
  · rw [if_pos hk] at h2; simp only [Bool.and_eq_true, decide_eq_true_eq] at h2; simp [goodRtM, routeM, hk, h1, h2.1, h2.2.1]
  · rw [if_neg hk] at h2; simp only [Bool.and_eq_true, decide_eq_true_eq, List.isEmpty_iff] at h2; cases hb : k.blob <;> simp [goodRtM, routeM, hk, hb, h1, h2.2]
def inmF (t : Tk) : Fld := ⟨inmB, [34] ++ stampM t.dig.1 ++ [34]⟩
def askF (k : Ky) (host : List UInt8) (t : Tk) : List Fld := [⟨nHost, host⟩] ++ (if k.blob = true then [] else [⟨acceptB, accB⟩]) ++ (if k.kind = 1 ∧ t.found = true then [inmF t] else [])
def methB (k : Ky) : List UInt8 := if k.kind = 2 then methGet else methHead
def askedE (k : Ky) (host : List UInt8) (t : Tk) : Int := if goodKyM k = true ∧ askE (methB k) (rtText (routeM k)) (askF k host t) = 0 then 0 else 1
def askedS (k : Ky) (host : List UInt8) (t : Tk) : List UInt8 := if askedE k host t = 0 then askS (methB k) (rtText (routeM k)) (askF k host t) else []
theorem asked_bad {k : Ky} {host : List UInt8} {t : Tk} (h : goodKyM k = false) : askedE k host t = 1 ∧ askedS k host t = [] := by
  have h1 : askedE k host t = 1 := by unfold askedE; rw [if_neg (by rw [h]; simp)]
  exact ⟨h1, by unfold askedS; rw [h1]; rfl⟩
theorem asked_no {k : Ky} {host : List UInt8} {t : Tk} (h : askE (methB k) (rtText (routeM k)) (askF k host t) ≠ 0) : askedE k host t = 1 ∧ askedS k host t = [] := by
  have h1 : askedE k host t = 1 := by unfold askedE; rw [if_neg (fun hh => h hh.2)]
  exact ⟨h1, by unfold askedS; rw [h1]; rfl⟩
theorem asked_yes {k : Ky} {host : List UInt8} {t : Tk} (hg : goodKyM k = true) (h : askE (methB k) (rtText (routeM k)) (askF k host t) = 0) : askedE k host t = 0 ∧ askedS k host t = askS (methB k) (rtText (routeM k)) (askF k host t) := by
  have h1 : askedE k host t = 0 := by unfold askedE; rw [if_pos ⟨hg, h⟩]
  exact ⟨h1, by unfold askedS; rw [h1]; rfl⟩
def typM (F : List Fld) : List UInt8 := if isTypeM (getV F ctB) = true then getV F ctB else []
def sizM (n : Int) : Int := if n < 0 ∨ 1048576 < n then 0 else n
theorem getS_low {n m : List UInt8} (h : lowW n = lowW m) (L : List Fld) : getV L n = getV L m ∧ getN L n = getN L m := by
  have hs : sameN n = sameN m := funext fun f => by unfold sameN; rw [h]
  have : getS L n = getS L m := by unfold getS; rw [hs]
  unfold getV getN; rw [this]; exact ⟨rfl, rfl⟩
def rs0 : Rs := ⟨0, zeroD, [], 0, 0⟩
def rsBad : Rs := ⟨502, zeroD, [], 0, 0⟩
def shownM (a : Ans) : Option Dig := behindO (getV a.F dcdB)
def foundM (k : Ky) (a : Ans) (at_ : Int) : Rs :=
  if k.kind = 1 ∧ getN a.F dcdB = 1 ∧ (shownM a).isSome = true then ⟨200, (shownM a).getD zeroD, typM a.F, sizM a.len, at_⟩
  else if k.kind = 3 ∧ (getN a.F dcdB = 0 ∨ (shownM a).isSome = true ∧ (shownM a).getD zeroD = k.dig) then ⟨200, k.dig, typM a.F, sizM a.len, at_⟩
  else rsBad
def judgeV (k : Ky) (a : Ans) : Int := if a.st = 404 then 1 else if a.st = 429 ∨ (500 ≤ a.st ∧ a.st ≤ 599) then 2 else if a.st = 200 ∧ k.kind = 2 then 3 else 1
def judgeR (k : Ky) (t : Tk) (a : Ans) (at_ : Int) : Rs :=
  if a.st = 404 then ⟨404, zeroD, [], 0, at_⟩
  else if a.st = 429 ∨ (500 ≤ a.st ∧ a.st ≤ 599) then rs0
  else if a.st = 200 then (if k.kind = 2 then rs0 else foundM k a at_)
  else if a.st = 304 ∧ k.kind = 1 ∧ t.found = true then ⟨304, t.dig, t.typ, t.size, at_⟩
  else rsBad
end Go.Proofs.YtlhnjkekjbbhcaaGreatDoor
