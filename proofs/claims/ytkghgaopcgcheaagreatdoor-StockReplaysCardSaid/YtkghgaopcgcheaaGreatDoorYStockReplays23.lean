/- Parts of the proof of StockReplays, in order. No conditions but those that each theorem states. -/
import Derived.Test.YtkghgaopcgcheaaGreatDoorYStockReplays0
import Derived.Deep.RegionHeld3
import Derived.Deep.Cut
import Derived.Deep.DeepCutAuto
import Derived.Deep.LoopGhost
import Derived.Deep.AppendLies
import Derived.Deep.RegionLaw
import Derived.Lib.ItoaNum
import Derived.Lib.SlTrimSet
import Derived.Lib.SlBytesConst
import Derived.WalkMore
import Derived.Test.YtkghgaopcgcheaaGreatDoorYStockReplays22
set_option maxRecDepth 100000
set_option maxHeartbeats 16000000
set_option linter.unusedSimpArgs false
set_option linter.unusedVariables false
namespace Go.Proofs.YtkghgaopcgcheaaGreatDoor
open Go.RowKit Go.Maps
theorem Pk.names {S : List Nat} {w : World} {d : Nat} {K : Dsk} (h : Pk S w d K) : ∀ p ∈ K.files, p.1.length ≤ 80 ∧ p.2.1.length ≤ 4194304 := by
  obtain ⟨bm, E, ops, h1, h2, _⟩ := h; rw [h2]; intro p hp; obtain ⟨e, he, rfl⟩ := List.mem_map.1 hp; exact ⟨(h1.fil e he).name, (h1.fil e he).len⟩
theorem diginfo : (Tryz.prog.info? 25).map (fun i => (i.zero, i.size, i.bytes)) = some (some (.agg (digC zeroD).toArray), 32, 32) := by kernel_rfl
theorem diginfo' : ∃ i0, Hid (Tryz.prog.info? 25 = some i0 ∧ i0.zero = some (.agg (digC zeroD).toArray) ∧ i0.size = 32 ∧ i0.bytes = 32) := by
  obtain ⟨i0, hi, hz0, hz1, hz2⟩ := info_parts diginfo; exact ⟨i0, hi, hz0, hz1, hz2⟩
theorem larder_isRight {S0 : List Nat} (r d : Nat) (name l : List UInt8) (dg : Dig) (Kd : Dsk) (w : World) (hl : Ld w r d) (hp : Pk S0 w d Kd) (hG : GP S0 w) (hr : r ∉ S0) (hoff : Kd.off = false) (hn : name.length ≤ 80) (hll : l.length ≤ 4194304) (hrd : readD name Kd = some l) :
    Calls Tryz.prog 83 #[.pointer (some ⟨r, 0, none⟩), .string (S name), .agg (digC dg).toArray] w fun e w' => e = .returned (.tuple #[.bool (decide (shaOf [l] = dg)), .int .i64 0]) ∧ ∃ S', Pk S' w' d Kd ∧ Grow S0 w S' w' := by
  have hq := fun w => eqDig (shaOf [l]) dg w
  have HG := Lib.hid (fun S' w' (g : Grow (cutS S0 w) w S' w') => And.intro g.uncut (hG.grow g.uncut).1.2.1); have hpc := hp.cut; have HT := Lib.hid (show ∀ x ∈ cutS S0 w, x ∈ S0 ∧ x < w.heap.size from fun x hx => mem_cutS.1 hx); generalize cutS S0 w = T at hpc HT HG; have k1 := (Keep.refl [] w).alloc (.cells (digC dg).toArray 25); have b1 := Blk.new w (digC dg) 25; have hl1 := k1.blk hl (by simp); have hdl := digC_length dg; obtain ⟨n, hnn⟩ : ∃ n, w.heap.size = n := ⟨_, rfl⟩
  rw [hnn] at b1; have hrz := read_size hrd; have HSZ0 := Lib.hid (fun w' (k : Keep [] w w') => pk_Size d Kd name w' (hpc.keep0 k) hoff (by omega)); rw [hrz] at HSZ0; have HRE0 := Lib.hid (fun w' (k : Keep [] w w') => plank_Read d Kd name l w' (hpc.keep0 k) hrd); have HOF0 := Lib.hid (fun w' v (ht : ShaT w') (hs : Sl strC 1 w' v [l]) => sha_Of v [l] w' hs ht (by simp [sumLen]; omega)); obtain ⟨b, hb⟩ : ∃ b, decide (shaOf [l] = dg) = b := ⟨_, rfl⟩
  rw [hb] at hq ⊢; obtain ⟨SC, hSC⟩ : ∃ z, digC (shaOf [l]) = z := ⟨_, rfl⟩
  rw [hSC] at hq HOF0; have hszn := S_size name; have hszl := S_size l; generalize digC dg = DC at *; have HDL := Lib.hid hdl; go_enter Tryz.func83, Tryz.ntmps83
  go_upto_region 1 with fail
  (try simp only [hnn]); generalize w.alloc (.cells DC.toArray 25) = w1 at k1 b1 hl1 ⊢; have HC := Lib.hid (show ∀ w', Keep T w1 w' → w'.cell? ⟨r, 0, none⟩ = some (.pointer (some ⟨d, 0, none⟩)) from fun w' k => (k.blk hl1 (fun hm => hr (HT.out r hm).1)).get rfl); have HSZ := Lib.hid (fun w' (k : Keep [] w1 w') => HSZ0.out w' (k1.trans k)); have HRE := Lib.hid (fun w' (k : Keep [] w1 w') => HRE0.out w' (k1.trans k)); have K1 := Lib.hid k1; have HB1 := Lib.hid (show Blk w1 n 25 DC ∧ n ∉ T from ⟨b1, fun hm => by have := (HT.out n hm).2; omega⟩); have KD := Lib.hid ((Keep.refl [] w1).drew); clear hl hp hr hrd hpc k1 b1 hl1 hdl hnn hG HSZ0 HRE0 hb hSC hrz hoff; refine wp_region_held_drew (S := fun w' => Keep T w1 w') (by kernel_rfl) ((KD.out.mono (by simp))) (fun hHeld => ?_); refine gW 0 ?_; (try simp only [sq]); refine gW 1 ?_; (try simp only [sq]); refine gW 2 ?_; (try simp only [sq]); refine gV 3 (v := ?_) ?_ ?_; rotate_left
  · (intro w' hSw; have c0 := HC.out w' hSw; go_simp) <;> (with_reducible rfl)
  (try simp only [sq]); refine gW 4 ?_; (try simp only [sq]); refine gW 5 ?_; (try simp only [sq]); refine gW 6 ?_; (try simp only [sq]); refine gW 7 ?_; (try simp only [sq]); refine gV 8 (v := ?_) ?_ ?_; rotate_left
  · (intro w' hSw; have c0 := HC.out w' hSw; go_simp) <;> (with_reducible rfl)
  (try simp only [sq]); refine gW 9 ?_; (try simp only [sq]); refine gR 10 rfl (fun K hK => ?_); go_simp; refine (HSZ.out _ KD.out).mono ?_; rintro e wq ⟨rfl, kq⟩; have KQ := Lib.hid (KD.out.trans kq); have hKq := KQ.out.mono (S' := T) (by simp); clear kq; (try go_simp); refine hK.out _ _ (hKq) (fun hHeld => ?_); clear hK K; (try simp only [sq]); refine gR 11 rfl (fun K hK => ?_); go_simp; refine (HRE.out _ KQ.out).mono ?_; rintro e w3 ⟨rfl, S3, p3, g3⟩; have hK3 := (KQ.out.mono (S' := T) (by simp)).trans g3.1; have HF := Lib.hid (show Pk S3 w3 d Kd ∧ Grow T w S3 w3 from And.intro p3 (Grow.pre (K1.out.trans KQ.out) g3)); clear p3 g3; (try go_simp); refine hK.out _ _ (hK3) (fun hHeld => ?_); clear hK K; (try simp only [sq]); refine gW 12 ?_; (try simp only [sq]); refine gW 13 ?_; (try simp only [sq]); refine gW 14 ?_; (try simp only [sq]); refine gW 15 ?_; (try simp only [sq]); refine gW 16 ?_; (try simp only [sq]); refine wpAnyH_done (by kernel_rfl) ?_ _; obtain ⟨wc, hwc⟩ : ∃ z, z = w3 := ⟨_, rfl⟩
  rw [← hwc] at HF hK3 ⊢; clear hwc hHeld hKq; have HB := Lib.hid (hK3.blk HB1.out.1 HB1.out.2); have HOF := Lib.hid (fun w' (k : Keep [] wc w') (v) (hs : Sl strC 1 w' v [l]) => HOF0.out w' v ((HG.out _ _ HF.out.2).2.keep0 k) hs); clear HOF0
  go_upto_region 2 with fail
  refine wp_region_held_drew (S := fun w' => Keep [] wc w') (by kernel_rfl) ((Keep.refl _ _).drew) (fun hHeld => ?_); refine gW 0 ?_; (try simp only [sq]); refine gZ 3 n 0 (DC) (fun w' hSw => (hSw.blk HB.out (by simp)).rng) (by rw [HDL.out]; kernel_rfl) ?_; (try simp only [sq]); refine gW 5 ?_; (try simp only [sq]); refine gR 1 rfl (fun K hK => ?_); go_simp; have hKa := hHeld.alloc (.cells #[.string (S l)] 9); (try go_simp); refine hK.out _ _ (hKa) (fun hHeld => ?_); clear hK K; (try simp only [sq]); refine gR 2 rfl (fun K hK => ?_); go_simp; refine (HOF.out _ hKa _ (by exact names_one wc.drew l)).mono ?_; rintro e wq ⟨rfl, kq⟩; have hKq := hKa.trans kq; clear kq; (try go_simp); refine hK.out _ _ (hKq) (fun hHeld => ?_); clear hK K; (try simp only [sq]); refine gW 4 ?_; (try simp only [sq]); refine gW 6 ?_; (try simp only [sq]); refine gW 7 ?_; (try simp only [sq]); refine wpAnyH_done (by kernel_rfl) ?_ _; have HKQ := Lib.hid hKq; clear hq; go_wp2_with fail; go_ret2; exact ⟨rfl, _, HF.out.1.keep0 HKQ.out, (HG.out _ _ HF.out.2).1.then HKQ.out⟩
def blobsD (F : List (List UInt8)) : List Dig := F.filterMap behindB
theorem blobs_take {F : List (List UInt8)} {k : Nat} {x : List UInt8} (h : F[k]? = some x) : blobsD (F.take (k + 1)) = blobsD (F.take k) ++ (behindB x).toList := by
  have e : F.take (k + 1) = F.take k ++ [x] := by rw [List.take_add_one, h]; rfl
  rw [e]; unfold blobsD; rw [List.filterMap_append]; cases hb : behindB x <;> simp [hb]
theorem blobs_len (F : List (List UInt8)) : (blobsD F).length ≤ F.length := List.length_filterMap_le _ _
theorem larder_List {S0 : List Nat} (r d : Nat) (K : Dsk) (w : World) (hl : Ld w r d) (hp : Pk S0 w d K) (hln : K.files.length ≤ 4000) :
    Calls Tryz.prog 33 #[.pointer (some ⟨r, 0, none⟩)] w fun e w' => ∃ v, e = .returned v ∧ Own digC 32 w.heap.size 25 w' v (blobsD (K.files.map (·.1))) ∧ Keep [] w w' := by
  have c0 := hl.get (k := 0) rfl; have HNM := Lib.hid (pk_Names d K w hp hln)
  have hnl : ∀ x ∈ K.files.map (·.1), x.length ≤ 80 := fun x hx => by
    obtain ⟨p, hp', rfl⟩ := List.mem_map.1 hx; exact (hp.names p hp').1
  have hml : (K.files.map (·.1)).length ≤ 4000 := by rw [List.length_map]; exact hln
  obtain ⟨F, hF⟩ : ∃ F, K.files.map (·.1) = F := ⟨_, rfl⟩
  rw [hF] at HNM hnl hml ⊢; obtain ⟨is, Hs⟩ := diginfo'; have HNL := Lib.hid hnl; clear hl hp hln hF hnl; go_enter Tryz.func33, Tryz.ntmps33; go_wp2_with fail; refine HNM.out.mono ?_; rintro e w1 ⟨v, rfl, ho, k1⟩; obtain ⟨aa, ca, rfl, hcap⟩ := ho.shape; have HO := Lib.hid ho; have K1 := Lib.hid k1; clear ho k1 hcap c0; go_wp2_with fail
  go_loopg [2, 15] F.length (fun g s2 s15 wr => ∃ k : Nat, s15 = .int .i64 k ∧ k ≤ F.length ∧ g = F.length - k ∧ Hid (Keep [] w1 wr) ∧ Hid (Own digC 32 w1.heap.size 25 wr s2 (blobsD (F.take k))))
  case atStart => exact ⟨0, rfl, Nat.zero_le _, by omega, Lib.hid (Keep.refl _ _), Lib.hid (by simpa [blobsD] using Own.nil digC 32 _ _ _)⟩
  case round =>
    obtain ⟨k, rfl, hk, hgk, HK1, HV⟩ := hrel; by_cases hlt : k < F.length
    · obtain ⟨x, hx⟩ : ∃ x, F[k]? = some x := ⟨_, List.getElem?_eq_getElem hlt⟩
      have hxl := HNL.out x (List.mem_of_getElem? hx); obtain ⟨ba, oa, ca', hva, _, hca, hcell⟩ := ((HO.out.keep0 HK1.out).sl strC_length).cell hx; cases hva; have hc0 := hcell 0 (by omega); simp only [strC, List.getElem?_cons_zero, Nat.add_zero, Nat.mul_one] at hc0; have HNA := Lib.hid (fun w' => stamp_Named x w' (by omega)); have HTK := Lib.hid (blobs_take hx); have hbl := blobs_len (F.take k); rw [List.length_take] at hbl; have f1 : decide ((k : Int) < (F.length : Nat)) = true := decide_eq_true (by omega); unfold digOut at HNA
      cases hb : behindB x with
      | none =>
        rw [hb] at HNA HTK; clear hcell hx hca hb; go_wp2_with fail; refine (HNA.out _).mono ?_; rintro e w2 ⟨rfl, k2⟩; have K2 := Lib.hid (show Keep [] wr w2 from k2); clear k2 hc0; have bz := Blk.new w2 (digC zeroD) 25; have hDZ := Lib.hid (show (digC zeroD).length = 32 ∧ ∀ v ∈ digC zeroD, v.oneCell' = true from ⟨digC_length _, digC_one _⟩)
        go_upto_region 7 with (first | ((with_reducible refine gS 5 22 ?_); refine wpList_store_new rfl 25 (.tmp 5) (.tmp 22) rfl _ (digC zeroD) (by rfl) (by rfl) (by rw [hDZ.out.1]; kernel_rfl) (by rw [hDZ.out.1]; kernel_rfl) hDZ.out.2 ?_) | fail)
        have K3 := Lib.hid ((K2.out).alloc (.cells (digC zeroD).toArray 25)); clear bz; generalize w2.alloc (.cells (digC zeroD).toArray 25) = w3 at K3 ⊢; go_wp2_with fail
        go_roundg (F.length - (k + 1))
        case measure => omega
        case rel =>
          refine ⟨k + 1, by go_num, by omega, rfl, Lib.hid (HK1.out.trans K3.out), Lib.hid ?_⟩; rw [HTK.out]; simpa using HV.out.keep0 K3.out
      | some dg =>
        rw [hb] at HNA HTK; obtain ⟨DC, hDC⟩ : ∃ z, digC dg = z := ⟨_, rfl⟩
        have HDC := Lib.hid (show digC dg = DC ∧ DC.length = 32 ∧ ∀ v ∈ DC, v.oneCell' = true from ⟨hDC, by rw [← hDC]; exact digC_length _, by rw [← hDC]; exact digC_one _⟩); simp only [Option.getD_some, Option.isSome_some] at HNA; rw [hDC] at HNA; clear hcell hx hca hb hDC; go_wp2_with fail; refine (HNA.out _).mono ?_; rintro e w2 ⟨rfl, k2⟩; have K2 := Lib.hid (show Keep [] wr w2 from k2); clear k2 hc0
        go_upto_region 7 with (first | ((with_reducible refine gS 5 22 ?_); refine wpList_store_new rfl 25 (.tmp 5) (.tmp 22) rfl _ DC (by rfl) (by rfl) (by rw [HDC.out.2.1]; kernel_rfl) (by rw [HDC.out.2.1]; kernel_rfl) HDC.out.2.2 ?_) | fail)
        obtain ⟨n2, hn2⟩ : ∃ n, w2.heap.size = n := ⟨_, rfl⟩
        have b3 := Blk.new w2 DC 25; rw [hn2] at b3; (try rw [hn2]); have K3 := Lib.hid ((K2.out).alloc (.cells DC.toArray 25)); generalize w2.alloc (.cells DC.toArray 25) = w3 at K3 b3 ⊢; have B3 := Lib.hid b3; have HV3 := Lib.hid (HV.out.keep0 K3.out); have HK3 := Lib.hid (HK1.out.trans K3.out); clear b3 hn2
        go_wp2_with (first | ((with_reducible refine gL 26 5 ?_); refine gl n2 0 DC B3.out.rng (by rw [HDC.out.2.1]; kernel_rfl) ?_; try simp only [sq]) | (refine wpList_buildOne rfl 74 25 (.tmp 26) rfl Hs (by omega) (by omega) Tryz.underlying74 DC HDC.out.2.1 (by rfl) ?_) | (at_builtin; go_must (refine wpList_append3 rfl _ _ 74 rfl is _ 32 Tryz.underlying74 Hs (by rfl) (by decide) digC_length digC_one w3 (HK3.out.size) (by rfl) HV3.out dg _ HDC.out.1.symm _ (by rfl) (by show _ + 1 ≤ 9223372036854775807; omega) (by omega) ?_); intro v' w4 hown' hgr hat) | fail); have hh : ∀ k, u2.ownBlock = some k → w1.heap.size ≤ k := fun k hk => (HV3.out.lt k hk).1
        have K4 := Lib.hid (show Keep [] w1 w4 from HK3.out.trans' (Keep.grown' hgr (S := u2.ownBlock.toList) (fun k hk _ => by rw [hk]; simp)) (fun x hx hl => by simp at hx; have := hh x hx; omega)); have HV4 := Lib.hid hown'; clear hown' hgr hat hh; go_wp2_with fail
        go_roundg (F.length - (k + 1))
        case measure => omega
        case rel =>
          refine ⟨k + 1, by go_num, by omega, rfl, K4, Lib.hid ?_⟩; rw [HTK.out]; simpa using HV4.out
    · have hke : k = F.length := by omega
      have f1 : decide ((k : Int) < (F.length : Nat)) = false := decide_eq_false (by omega); subst hke; have HVF := Lib.hid (show Own digC 32 w.heap.size 25 wr u2 (blobsD F) by have := HV.out.lower K1.out.size; rwa [List.take_length] at this); clear HV; go_wp2_with fail; go_ret; exact ⟨_, rfl, HVF.out, K1.out.trans HK1.out⟩
end Go.Proofs.YtkghgaopcgcheaaGreatDoor
namespace Go.Proofs.YtkghgaopcgcheaaGreatDoor
open Go.RowKit
theorem dig32 (l : List UInt8) (h : l.length = 32) : ∃ b0 b1 b2 b3 b4 b5 b6 b7 b8 b9 b10 b11 b12 b13 b14 b15 b16 b17 b18 b19 b20 b21 b22 b23 b24 b25 b26 b27 b28 b29 b30 b31, l = [b0, b1, b2, b3, b4, b5, b6, b7, b8, b9, b10, b11, b12, b13, b14, b15, b16, b17, b18, b19, b20, b21, b22, b23, b24, b25, b26, b27, b28, b29, b30, b31] := by
  match l, h with
  | [b0, b1, b2, b3, b4, b5, b6, b7, b8, b9, b10, b11, b12, b13, b14, b15, b16, b17, b18, b19, b20, b21, b22, b23, b24, b25, b26, b27, b28, b29, b30, b31], _ => exact ⟨b0, b1, b2, b3, b4, b5, b6, b7, b8, b9, b10, b11, b12, b13, b14, b15, b16, b17, b18, b19, b20, b21, b22, b23, b24, b25, b26, b27, b28, b29, b30, b31, rfl⟩
theorem bd_jarS (d : Dig) (s : Int) : Tryz.prog.built 63 [(0, .agg (digC d).toArray), (2, .int .i64 s)] = some ((⟨d, [], s, 0⟩ : Jar)).cells.toArray := by
  obtain ⟨l, hl⟩ := d; obtain ⟨b0, b1, b2, b3, b4, b5, b6, b7, b8, b9, b10, b11, b12, b13, b14, b15, b16, b17, b18, b19, b20, b21, b22, b23, b24, b25, b26, b27, b28, b29, b30, b31, rfl⟩ := dig32 l hl; kernel_rfl
theorem bd_jarP (d : Dig) (t : List UInt8) (s : Int) : Tryz.prog.built 63 [(0, .agg (digC d).toArray), (1, .string (S t)), (2, .int .i64 s)] = some ((⟨d, t, s, 0⟩ : Jar)).cells.toArray := by
  obtain ⟨l, hl⟩ := d; obtain ⟨b0, b1, b2, b3, b4, b5, b6, b7, b8, b9, b10, b11, b12, b13, b14, b15, b16, b17, b18, b19, b20, b21, b22, b23, b24, b25, b26, b27, b28, b29, b30, b31, rfl⟩ := dig32 l hl; kernel_rfl
theorem bd_slipB (d : Dig) (t : List UInt8) (s : Int) : Tryz.prog.built 27 [(0, .int .i64 4), (3, .agg (digC d).toArray), (4, .string (S t)), (5, .int .i64 s)] = some ((⟨4, [], [], d, t, s, 0⟩ : Slp)).cells.toArray := by
  obtain ⟨l, hl⟩ := d; obtain ⟨b0, b1, b2, b3, b4, b5, b6, b7, b8, b9, b10, b11, b12, b13, b14, b15, b16, b17, b18, b19, b20, b21, b22, b23, b24, b25, b26, b27, b28, b29, b30, b31, rfl⟩ := dig32 l hl; kernel_rfl
theorem bd_slipD (k : Int) (d : Dig) : Tryz.prog.built 27 [(0, .int .i64 k), (3, .agg (digC d).toArray)] = some ((⟨k, [], [], d, [], 0, 0⟩ : Slp)).cells.toArray := by
  obtain ⟨l, hl⟩ := d; obtain ⟨b0, b1, b2, b3, b4, b5, b6, b7, b8, b9, b10, b11, b12, b13, b14, b15, b16, b17, b18, b19, b20, b21, b22, b23, b24, b25, b26, b27, b28, b29, b30, b31, rfl⟩ := dig32 l hl; kernel_rfl
theorem bd_noted (k : Int) (r g : List UInt8) (d : Dig) (t : List UInt8) (s a : Int) : Tryz.prog.built 27 [(0, .int .i64 k), (1, .string (S r)), (2, .string (S g)), (3, .agg (digC d).toArray), (4, .string (S t)), (5, .int .i64 s), (6, .int .i64 a)] = some ((⟨k, r, g, d, t, s, a⟩ : Slp)).cells.toArray := by
  obtain ⟨l, hl⟩ := d; obtain ⟨b0, b1, b2, b3, b4, b5, b6, b7, b8, b9, b10, b11, b12, b13, b14, b15, b16, b17, b18, b19, b20, b21, b22, b23, b24, b25, b26, b27, b28, b29, b30, b31, rfl⟩ := dig32 l hl; kernel_rfl
theorem bd_told (r g : List UInt8) (f : Bool) (d : Dig) (t : List UInt8) (s a : Int) : Tryz.prog.built 51 [(0, .string (S r)), (1, .string (S g)), (2, .bool f), (3, .agg (digC d).toArray), (4, .string (S t)), (5, .int .i64 s), (6, .int .i64 a)] = some ((⟨r, g, f, d, t, s, a⟩ : Tik)).cells.toArray := by
  obtain ⟨l, hl⟩ := d; obtain ⟨b0, b1, b2, b3, b4, b5, b6, b7, b8, b9, b10, b11, b12, b13, b14, b15, b16, b17, b18, b19, b20, b21, b22, b23, b24, b25, b26, b27, b28, b29, b30, b31, rfl⟩ := dig32 l hl; kernel_rfl
end Go.Proofs.YtkghgaopcgcheaaGreatDoor
namespace Go.Proofs.YtkghgaopcgcheaaGreatDoor
open Go.RowKit Go.Maps
theorem wp_b2 {o : Oper} {a : Act} {w : World} {K : Act → World → Prop} {Q : Exit → Act → World → Prop} {T : TypeId} {n m : Nat} {u v : Value} {cs : List Value} (HB : Hid (Tryz.prog.built T [(n, u), (m, v)] = some cs.toArray)) (x y : Operand)
    (ho : o.op = .build T #[(n, x), (m, y)]) (hx : a.eval x = u) (hy : a.eval y = v) (h : K (a.put o.dst (.agg cs.toArray)) w) : o.wp Tryz.prog a w K Q := by
  have e : (#[(n, x), (m, y)].map fun (i, x) => (i, a.eval x)).toList = [(n, u), (m, v)] := by simp [hx, hy]
  refine wp_build _ _ ho (by rw [e, HB.out]; rfl) ?_; rw [e, HB.out]; exact h
def tmpP : List UInt8 := [116, 101, 109, 112, 45]
def sweepOk (Kd : Dsk) (p : List UInt8 × List UInt8 × Nat) : Prop := match behindB p.1 with
  | some dg => readD p.1 Kd = some p.2.1 ∧ shaOf [p.2.1] = dg
  | none => Lib.hasPrefix p.1 tmpP = false ∧ Lib.hasPrefix p.1 pfxB = false
def jarOf (p : List UInt8 × List UInt8 × Nat) : Option Jar := (behindB p.1).map fun dg => ⟨dg, [], (p.2.1.length : Nat), 0⟩
def jarsD (F : List (List UInt8 × List UInt8 × Nat)) : List Jar := F.filterMap jarOf
theorem jars_take {F : List (List UInt8 × List UInt8 × Nat)} {k : Nat} {x : List UInt8 × List UInt8 × Nat} (h : F[k]? = some x) : jarsD (F.take (k + 1)) = jarsD (F.take k) ++ (jarOf x).toList := by
  have e : F.take (k + 1) = F.take k ++ [x] := by rw [List.take_add_one, h]; rfl
  rw [e]; unfold jarsD; rw [List.filterMap_append]; cases hb : jarOf x <;> simp [hb]
theorem jars_len (F : List (List UInt8 × List UInt8 × Nat)) : (jarsD F).length ≤ F.length := List.length_filterMap_le _ _
theorem larder_Sweep {S0 : List Nat} (r d : Nat) (Kd : Dsk) (w : World) (hl : Ld w r d) (hp : Pk S0 w d Kd) (hG : GP S0 w) (hr : r ∉ S0) (hoff : Kd.off = false) (hln : Kd.files.length ≤ 4000) (hok : ∀ p ∈ Kd.files, sweepOk Kd p) :
    Calls Tryz.prog 43 #[.pointer (some ⟨r, 0, none⟩)] w fun e w' => ∃ v, e = .returned (.tuple #[v, .int .i64 0]) ∧ Own Jar.cells 35 w.heap.size 63 w' v (jarsD Kd.files) ∧ ∃ S', Pk S' w' d Kd ∧ Grow S0 w S' w' ∧ ∀ g, v.ownBlock = some g → g ∉ S' := by
  have HG := Lib.hid (fun S' w' (g : Grow (cutS S0 w) w S' w') => g.uncut); have hpc := hp.cut; have HT := Lib.hid (show ∀ x ∈ cutS S0 w, x ∈ S0 ∧ x < w.heap.size from fun x hx => mem_cutS.1 hx); have hGT : GP (cutS S0 w) w := ⟨hG.1, fun x hx => hG.2 x (mem_cutS.1 hx).1⟩
  have hrT : r ∉ cutS S0 w := fun hm => hr (mem_cutS.1 hm).1
  generalize cutS S0 w = T at hpc HT HG hGT hrT; have c0 := hl.get (k := 0) rfl; have HNM := Lib.hid (pk_Names d Kd w hp hln); have HFN := Lib.hid (show ∀ p ∈ Kd.files, p.1.length ≤ 80 ∧ p.2.1.length ≤ 4194304 ∧ sweepOk Kd p from fun p hp' => ⟨(hp.names p hp').1, (hp.names p hp').2, hok p hp'⟩); obtain ⟨F, hF⟩ : ∃ F, Kd.files = F := ⟨_, rfl⟩
  have HSZ := Lib.hid (fun (S0 : List Nat) w' (s l : List UInt8) (p : Pk S0 w' d Kd) (hs : s.length ≤ 80) (hrd : readD s Kd = some l) => show Calls Tryz.prog 84 #[.pointer (some ⟨d, 0, none⟩), .string (S s)] w' fun e w'' => e = .returned (.int .i64 (l.length : Nat)) ∧ Keep [] w' w'' from by
    have := pk_Size d Kd s w' p hoff (by omega); rwa [read_size hrd] at this)
  have HIR := Lib.hid (fun (S0 : List Nat) w' (name l : List UInt8) (dg : Dig) (hl : Ld w' r d) (hp : Pk S0 w' d Kd) (hG : GP S0 w') (hr : r ∉ S0) => larder_isRight r d name l dg Kd w' hl hp hG hr hoff); rw [hF] at HNM HFN ⊢; rw [hF] at hln; obtain ⟨is, Hs⟩ := jarinfo'; have HI0 := Lib.hid (And.intro hpc (And.intro hl (And.intro hGT hrT))); clear hl hp hF hpc hG hr hGT hrT hok; go_enter Tryz.func43, Tryz.ntmps43; go_wp2_with fail; go_step3; go_wp2_with fail; go_step3; go_wp2_with fail; refine HNM.out.mono ?_; rintro e w1 ⟨v, rfl, ho, k1⟩; obtain ⟨aa, ca, rfl, hcap⟩ := ho.shape; rw [List.length_map] at *; have HO := Lib.hid ho; have K1 := Lib.hid k1; have HI1 := Lib.hid (show Pk T w1 d Kd ∧ Ld w1 r d ∧ GP T w1 ∧ r ∉ T from ⟨HI0.out.1.keep0 k1, k1.blk HI0.out.2.1 (by simp), HI0.out.2.2.1.keep0 k1, HI0.out.2.2.2⟩)
  have HON := Lib.hid (show ∀ g, (Value.slice aa F.length ca).ownBlock = some g → g ∉ T from fun g hg hm => by
    have h1 := (ho.lt g hg).1; have h2 := (HT.out g hm).2; omega)
  have HR1 := Lib.hid (show r < w1.heap.size from HI1.out.2.1.lt); clear ho k1 hcap c0; go_wp2_with fail
  go_loopg [2, 19] F.length (fun g s2 s19 wr => ∃ (k : Nat) (S' : List Nat), s19 = .int .i64 k ∧ k ≤ F.length ∧ g = F.length - k ∧ Hid (Pk S' wr d Kd ∧ Grow T w1 S' wr ∧ ∀ x ∈ S', x < wr.heap.size) ∧ Hid (Own Jar.cells 35 w1.heap.size 63 wr s2 (jarsD (F.take k)) ∧ ∀ g, s2.ownBlock = some g → g ∉ S'))
  case atStart => exact ⟨0, T, rfl, Nat.zero_le _, by omega, Lib.hid ⟨HI1.out.1, Grow.refl _ _, fun x hx => Nat.lt_of_lt_of_le (HT.out x hx).2 K1.out.size⟩, Lib.hid ⟨by simpa [jarsD] using Own.nil Jar.cells 35 _ _ _, by simp [Value.ownBlock]⟩⟩
  case round =>
    obtain ⟨k, S', rfl, hk, hgk, HP, HV⟩ := hrel; by_cases hlt : k < F.length
    · obtain ⟨p, hp⟩ : ∃ x, F[k]? = some x := ⟨_, List.getElem?_eq_getElem hlt⟩
      have hpm := HFN.out p (List.mem_of_getElem? hp); obtain ⟨ba, oa, ca', hva, _, hca, hcell⟩ := ((HO.out.keep HP.out.2.1.1 HON.out).sl strC_length).cell (i := k) (x := p.1) (by rw [List.getElem?_map, hp]; rfl); rw [List.length_map] at hva; cases hva; have hc0 := hcell 0 (by omega); simp only [strC, List.getElem?_cons_zero, Nat.add_zero, Nat.mul_one] at hc0; obtain ⟨x, hx⟩ : ∃ x, p.1 = x := ⟨_, rfl⟩
      obtain ⟨l, hl⟩ : ∃ x, p.2.1 = x := ⟨_, rfl⟩
      have HTK := Lib.hid (jars_take hp); have hso := hpm.2.2; unfold sweepOk at hso; unfold jarOf at HTK; rw [hx] at hpm hc0 hso HTK; rw [hl] at hpm hso HTK; have hxl := hpm.1; have hll := hpm.2.1; have hsx := S_size x; have HNA := Lib.hid (fun w' => stamp_Named x w' (by omega)); have hbl := jars_len (F.take k); rw [List.length_take] at hbl; have f1 : decide ((k : Int) < (F.length : Nat)) = true := decide_eq_true (by omega); unfold digOut at HNA
      cases hb : behindB x with
      | none =>
        rw [hb] at HNA HTK hso; simp only at hso
        have HPF := Lib.hid (show (∀ w', Calls Tryz.prog 85 #[.string (S x), .string ⟨#[116, 101, 109, 112, 45]⟩] w' fun e w'' => e = .returned (.bool false) ∧ w'' = w') ∧ (∀ w', Calls Tryz.prog 85 #[.string (S x), .string ⟨#[98, 108, 111, 98, 45]⟩] w' fun e w'' => e = .returned (.bool false) ∧ w'' = w') from
          ⟨fun w' => by
            have := Tryz.strings_HasPrefix (S x) ⟨#[116, 101, 109, 112, 45]⟩ w'; rw [show Lib.hasPrefix (S x).data.toList _ = false from by rw [S_list]; exact hso.1] at this
            exact this, fun w' => by
            have := Tryz.strings_HasPrefix (S x) ⟨#[98, 108, 111, 98, 45]⟩ w'; rw [show Lib.hasPrefix (S x).data.toList _ = false from by rw [S_list]; exact hso.2] at this; exact this⟩)
        clear hcell hp hca hb hso hpm; go_wp2_with fail; refine (HNA.out _).mono ?_; rintro e w2 ⟨rfl, k2⟩; have K2 := Lib.hid (show Keep [] wr w2 from k2); clear k2 hc0; have hDZ := Lib.hid (show (digC zeroD).length = 32 ∧ ∀ v ∈ digC zeroD, v.oneCell' = true from ⟨digC_length _, digC_one _⟩)
        go_upto_region 7 with (first | ((with_reducible refine gS 6 26 ?_); refine wpList_store_new rfl 25 (.tmp 6) (.tmp 26) rfl _ (digC zeroD) (by rfl) (by rfl) (by rw [hDZ.out.1]; kernel_rfl) (by rw [hDZ.out.1]; kernel_rfl) hDZ.out.2 ?_) | fail)
        have K3 := Lib.hid ((K2.out).alloc (.cells (digC zeroD).toArray 25)); generalize w2.alloc (.cells (digC zeroD).toArray 25) = w3 at K3 ⊢
        go_wp2_with (first | (go_at_call 85; first | (refine (HPF.out.1 _).mono ?_; rintro e we ⟨rfl, rfl⟩) | (refine (HPF.out.2 _).mono ?_; rintro e we ⟨rfl, rfl⟩)) | fail)
        go_roundg (F.length - (k + 1))
        case measure => omega
        case rel =>
          refine ⟨k + 1, S', by go_num, by omega, rfl, Lib.hid ⟨HP.out.1.keep0 K3.out, HP.out.2.1.then K3.out, fun x hx => Nat.lt_of_lt_of_le (HP.out.2.2 x hx) K3.out.size⟩, Lib.hid ⟨?_, HV.out.2⟩⟩; rw [HTK.out]; simpa using HV.out.1.keep0 K3.out
      | some dg =>
        rw [hb] at HNA HTK hso; simp only at hso; obtain ⟨DC, hDC⟩ : ∃ z, digC dg = z := ⟨_, rfl⟩
        have HDC := Lib.hid (show digC dg = DC ∧ DC.length = 32 ∧ ∀ v ∈ DC, v.oneCell' = true from ⟨hDC, by rw [← hDC]; exact digC_length _, by rw [← hDC]; exact digC_one _⟩); obtain ⟨JC, hJC⟩ : ∃ z, (⟨dg, [], (l.length : Nat), 0⟩ : Jar).cells = z := ⟨_, rfl⟩
        have HJC := Lib.hid (show (⟨dg, [], (l.length : Nat), 0⟩ : Jar).cells = JC ∧ JC.length = 35 from ⟨hJC, by rw [← hJC]; exact Jar.cells_length _⟩); have HBJ := Lib.hid (bd_jarS dg (l.length : Nat)); rw [hDC, hJC] at HBJ; have HIR2 := Lib.hid (fun (S0 : List Nat) w' (hl' : Ld w' r d) (hp : Pk S0 w' d Kd) (hG : GP S0 w') (hr : r ∉ S0) => HIR.out S0 w' x l dg hl' hp hG hr hxl hll hso.1); rw [decide_eq_true hso.2, hDC] at HIR2; have HSZ := Lib.hid (fun S0 w' p => HSZ.out S0 w' x l p hxl hso.1); simp only [Option.getD_some, Option.isSome_some] at HNA; rw [hDC] at HNA; clear hcell hp hca hb hDC hJC hpm hso HIR; go_wp2_with fail; refine (HNA.out _).mono ?_; rintro e w2 ⟨rfl, k2⟩; have K2 := Lib.hid (show Keep [] wr w2 from k2); clear k2 hc0
        go_upto_region 7 with (first | ((with_reducible refine gS 6 26 ?_); refine wpList_store_new rfl 25 (.tmp 6) (.tmp 26) rfl _ DC (by rfl) (by rfl) (by rw [HDC.out.2.1]; kernel_rfl) (by rw [HDC.out.2.1]; kernel_rfl) HDC.out.2.2 ?_) | fail)
        obtain ⟨n2, hn2⟩ : ∃ n, w2.heap.size = n := ⟨_, rfl⟩
        have b3 := Blk.new w2 DC 25; rw [hn2] at b3; (try rw [hn2]); have K3 := Lib.hid ((K2.out).alloc (.cells DC.toArray 25)); generalize w2.alloc (.cells DC.toArray 25) = w3 at K3 b3 ⊢; have hn2S : n2 ∉ S' := fun hm => by have := HP.out.2.2 n2 hm; have := K2.out.size; omega
        have HI3 := Lib.hid (show Pk S' w3 d Kd ∧ Grow T w1 S' w3 ∧ Ld w3 r d ∧ GP S' w3 ∧ r ∉ S' from
          ⟨HP.out.1.keep0 K3.out, HP.out.2.1.then K3.out, (HP.out.2.1.then K3.out).1.blk HI1.out.2.1 HI1.out.2.2.2, HI1.out.2.2.1.grow (HP.out.2.1.then K3.out), HP.out.2.1.out' HI1.out.2.2.2 HR1.out⟩)
        have HB3 := Lib.hid (show Blk w3 n2 25 DC ∧ n2 ∉ S' from ⟨b3, hn2S⟩); have HV3 := Lib.hid (show Own Jar.cells 35 w1.heap.size 63 w3 u2 (jarsD (F.take k)) ∧ (∀ g, u2.ownBlock = some g → g ∉ S') ∧ (∀ g, u2.ownBlock = some g → g ≠ n2) from ⟨HV.out.1.keep0 K3.out, HV.out.2, fun g hg e => by have := (HV.out.1.lt g hg).2; have := K2.out.size; omega⟩); clear b3 hn2 hn2S
        go_wp2_with (first | ((with_reducible refine gL 33 6 ?_); refine gl n2 0 DC HB3.out.1.rng (by rw [HDC.out.2.1]; kernel_rfl) ?_; try simp only [sq]) | fail); refine (HIR2.out S' w3 HI3.out.2.2.1 HI3.out.1 HI3.out.2.2.2.1 HI3.out.2.2.2.2).mono ?_; rintro e w4 ⟨rfl, S4, p4, g4⟩
        have HP4 := Lib.hid (show Pk (cutS S4 w4) w4 d Kd ∧ Grow T w1 (cutS S4 w4) w4 ∧ (∀ x ∈ cutS S4 w4, x < w4.heap.size) ∧ (∀ g, u2.ownBlock = some g → g ∉ cutS S4 w4) from
          ⟨p4.cut, HI3.out.2.1.trans g4.cut, fun x hx => (mem_cutS.1 hx).2, fun g hg => g4.cut.out' (HV3.out.2.1 g hg) ((HV3.out.1.lt g hg).2)⟩)
        have HV4 := Lib.hid (HV3.out.1.keep g4.1 HV3.out.2.1); have HB4 := Lib.hid (show w1.heap.size ≤ w4.heap.size ∧ Blk w4 n2 25 DC ∧ Ld w4 r d from ⟨HP4.out.2.1.1.size, g4.1.blk HB3.out.1 HB3.out.2, g4.1.blk HI3.out.2.2.1 HI3.out.2.2.2.2⟩)
        have HC12 := Lib.hid (show ∀ w', Keep u2.ownBlock.toList w4 w' → w'.cell? ⟨r, 0, none⟩ = some (.pointer (some ⟨d, 0, none⟩)) ∧ w'.rangeAt n2 0 DC from fun w' k =>
          ⟨(k.blk HB4.out.2.2 (by simp; intro e; have := (HV4.out.lt r e).1; have := HR1.out; omega)).get rfl, (k.blk HB4.out.2.1 (by simp; intro e; exact HV3.out.2.2 n2 e rfl)).rng⟩)
        have KD4 := Lib.hid ((Keep.refl [] w4).drew); have HUB := Lib.hid (show ∀ x ∈ u2.ownBlock.toList, ¬ x < w1.heap.size from fun x hx => by simp at hx; have := (HV4.out.lt x hx).1; omega); generalize cutS S4 w4 = S5 at HP4; clear p4 g4
        go_upto_region 12 with fail
        refine wp_region_held_drew (S := fun w' => Keep u2.ownBlock.toList w4 w') (by kernel_rfl) ((Keep.refl _ _).drew) (fun hHeld => ?_); refine gW 0 ?_; (try simp only [sq]); refine gZ 1 n2 0 (DC) (fun w' hSw => (HC12.out w' hSw).2) (by rw [HDC.out.2.1]; kernel_rfl) ?_; (try simp only [sq]); refine gW 2 ?_; (try simp only [sq]); refine gW 3 ?_; (try simp only [sq]); refine gW 4 ?_; (try simp only [sq]); refine gV 5 (v := ?_) ?_ ?_; rotate_left
        · (intro w' hSw; have c0 := (HC12.out w' hSw).1; go_simp) <;> (with_reducible rfl)
        (try simp only [sq]); refine gW 6 ?_; (try simp only [sq]); refine gR 7 rfl (fun K hK => ?_); go_simp; refine (HSZ.out S5 w4.drew (HP4.out.1.keep0 KD4.out)).mono ?_; rintro e wq ⟨rfl, kq⟩; have KQ := Lib.hid (KD4.out.trans kq); have hKq := KQ.out; clear kq; (try go_simp); refine hK.out _ _ (hKq.mono (by simp)) (fun hHeld => ?_); clear hK K; (try simp only [sq]); refine gR 8 rfl (fun K hK => ?_); rw [if_pos (by rfl)]; refine wp_b2 HBJ (.tmp 42) (.tmp 48) rfl (by rfl) (by rfl) ?_; refine hK.out _ _ (hHeld) (fun hHeld => ?_); clear hK K; (try simp only [sq]); refine gR 9 rfl (fun K hK => ?_); rw [if_pos (by rfl)]; refine wp_buildOne 29 63 (.tmp 49) rfl Hs (by omega) (by omega) Tryz.underlying29 JC HJC.out.2 (by rfl) ?_; refine hK.out _ _ ((hKq.mono (by simp)).alloc _) (fun hHeld => ?_); clear hK K; (try simp only [sq]); refine gR 10 rfl (fun K hK => ?_); rw [if_pos (by rfl)]; refine wp_append2 (.tmp 41) (.tmp 50) 29 rfl is _ 64 Tryz.underlying29 Hs (by rfl) (by decide) Jar.cells_length Jar.one wq (Nat.le_trans HB4.out.1 KQ.out.size) (by rfl) (HV4.out.keep0 KQ.out) _ _ HJC.out.1.symm _ (by rfl) (by show _ + 1 ≤ 9223372036854775807; omega) (by omega) ?_; intro v' w5 hown' hgr hat; have HW5 := Lib.hid (And.intro hown' (And.intro hgr hat)); clear hown' hgr hat; refine hK.out _ _ ((hKq.mono (by simp)).trans (Keep.grown' HW5.out.2.1 (fun k hk _ => by rw [hk]; simp))) (fun hHeld => ?_); clear hK K; (try simp only [sq]); refine gW 11 ?_; (try simp only [sq]); refine wpAnyH_done (by kernel_rfl) ?_ _
        have hfree : ∀ g, v'.ownBlock = some g → g ∉ S5 := fun g hg => by
          rcases HW5.out.2.2 with e | e
          · exact HP4.out.2.2.2 g (by rw [← e]; exact hg)
          · intro hm; have := HP4.out.2.2.1 g hm; have := KQ.out.size; rw [e] at hg; injection hg with hg
            omega
        have HF := Lib.hid (show Pk S5 w5 d Kd ∧ Grow T w1 S5 w5 ∧ (∀ x ∈ S5, x < w5.heap.size) ∧ ∀ g, v'.ownBlock = some g → g ∉ S5 from
          ⟨HP4.out.1.keep hHeld (fun x hx hm => by simp at hm; exact HP4.out.2.2.2 x hm hx),
           ⟨HP4.out.2.1.1.trans' hHeld (fun x hx hl => absurd hl (HUB.out x hx)), HP4.out.2.1.2⟩, fun x hx => Nat.lt_of_lt_of_le (HP4.out.2.2.1 x hx) hHeld.size, hfree⟩)
        clear hfree hHeld; go_wp2_with fail
        go_roundg (F.length - (k + 1))
        case measure => omega
        case rel =>
          refine ⟨k + 1, S5, by go_num, by omega, rfl, Lib.hid ⟨HF.out.1, HF.out.2.1, HF.out.2.2.1⟩, Lib.hid ⟨?_, HF.out.2.2.2⟩⟩; rw [HTK.out]; simpa using HW5.out.1
    · have hke : k = F.length := by omega
      have f1 : decide ((k : Int) < (F.length : Nat)) = false := decide_eq_false (by omega); subst hke; have HVF := Lib.hid (show Own Jar.cells 35 w.heap.size 63 wr u2 (jarsD F) by have := HV.out.1.lower K1.out.size; rwa [List.take_length] at this); have HVN := Lib.hid HV.out.2; clear HV; go_wp2_with fail; (try rw [Exit.noGoto_ret]); go_ret2; exact ⟨_, rfl, HVF.out, S', HP.out.1, HG.out _ _ (Grow.pre K1.out HP.out.2.1), HVN.out⟩
end Go.Proofs.YtkghgaopcgcheaaGreatDoor
namespace Go.Proofs.YtkghgaopcgcheaaGreatDoor
open Go.RowKit
def qT (r g : List UInt8) : Tik := ⟨r, g, false, dig00, [], 0, 0⟩
def tikGetV (o : Option Tik) : Value := match o with
  | some y => .tuple #[.agg y.cells.toArray, .bool true]
  | none => .tuple #[.agg Tik.zero.cells.toArray, .bool false]
theorem ticket_Get (t most : Nat) (v : Value) (L : List Tik) (r g : List UInt8) (w : World) (h : TbW w t v most L) :
    Calls Tryz.prog 66 #[.pointer (some ⟨t, 0, none⟩), .string (S r), .string (S g)] w fun e w' => e = .returned (tikGetV (getT r g L)) ∧ Keep [] w w' := by
  obtain ⟨R, hR⟩ : ∃ R, tikGetV (getT r g L) = R := ⟨_, rfl⟩
  rw [hR]; have HR := Lib.hid hR; clear hR; obtain ⟨ZC, hZC⟩ : ∃ z, Tik.zero.cells = z := ⟨_, rfl⟩
  have HZC := Lib.hid (show Tik.zero.cells = ZC ∧ ZC.length = 38 ∧ ∀ v ∈ ZC, v.oneCell' = true from ⟨hZC, by rw [← hZC]; exact Tik.cells_length _, by rw [← hZC]; exact Tik.one _⟩); obtain ⟨QC, hQC⟩ : ∃ z, (qT r g).cells = z := ⟨_, rfl⟩
  have HQC := Lib.hid hQC; obtain ⟨n, hn⟩ : ∃ n, w.heap.size = n := ⟨_, rfl⟩
  have k1 := (Keep.refl [] w).alloc (.cells Tik.zero.cells.toArray 51); have b1 := Blk.new w Tik.zero.cells 51; rw [hn] at b1; go_enter Tryz.func66, Tryz.ntmps66
  go_upto_region 1 with fail
  (try simp only [hn]); rw [eqT8]; generalize w.alloc (.cells Tik.zero.cells.toArray 51) = w1 at k1 b1 ⊢; have HT := Lib.hid (fun w' (k : Keep [] w1 w') => h.keep0 (k1.trans k)); have K1 := Lib.hid k1; have HTR := Lib.hid (show ∀ w', Keep [] w1 w' → World.there w' n 0 38 from fun w' k => (k.blk b1 (by simp)).thr 0 38 (by rw [Tik.cells_length]; omega)); have HN := Lib.hid hn; have HA := Lib.hid h.asc; have HFI := Lib.hid (ticket_find t v most L (qT r g) QC hQC w1 (HT.out w1 (Keep.refl _ _))); clear h k1 b1 hn hZC hQC
  go_wp2_with (first | ((with_reducible refine gB 17 ?_); refine wpList_build_is rfl 51 _ rfl QC (by rw [← HQC.out]; kernel_rfl) ?_; simp only [sq]) | fail); refine HFI.out.mono ?_; rintro e w2 ⟨rfl, k2⟩; have K2 := Lib.hid k2; clear k2 HFI
  cases hit : isT (qT r g) L with
  | false =>
    have HV := Lib.hid (show R = .tuple #[.agg ZC.toArray, .bool false] from by
      have : getT r g L = none := getT_none (x := qT r g) (isT_false HA.out hit); rw [← HR.out, this, ← HZC.out.1]; rfl)
    clear hit; go_wp2_with (first | ((with_reducible refine gB 23 ?_); refine wpList_build_is rfl 51 _ rfl ZC (by rw [← HZC.out.1]; kernel_rfl) ?_; simp only [sq]) | ((with_reducible refine gS 6 23 ?_); refine wpList_store_mid rfl 51 (.tmp 6) (.tmp 23) rfl n 0 ZC.toArray (by rfl) (by rfl) (by simp only [List.size_toArray, HZC.out.2.1]; exact (HTR.out _ K2.out)) (by simp only [List.size_toArray, HZC.out.2.1]; kernel_rfl) (all_oneCell_toArray HZC.out.2.2) ?_) | fail); have hload := run_loadVar_mid (P := Tryz.prog) (w2.setCells n 0 ZC) n 0 51 ZC _ (World.rangeAt_setCells_same w2 n 0 ZC (by rw [HZC.out.2.1]; exact (HTR.out _ K2.out))) Tryz.underlying51 rfl (by rw [HZC.out.2.1]; kernel_rfl); refine bodyPost_ret (v := .tuple #[.agg ZC.toArray, .bool false]) (by simp [Act.put, results, Tryz.results66, asAddr, Result.andThen, hload]) rfl ⟨by rw [HV.out], Keep.cellsTo n (fun hh => by have := HN.out; omega) _ _ _ (K1.out.trans K2.out)⟩
  | true =>
    obtain ⟨y, hy, hys⟩ := isT_true hit; obtain ⟨i, hpi⟩ : ∃ i, posT (qT r g) L = i := ⟨_, rfl⟩
    have hg := get_at HA.out hy hys; rw [hpi] at hy ⊢; obtain ⟨YC, hYC⟩ : ∃ l, y.cells = l := ⟨_, rfl⟩
    have HYC := Lib.hid (show y.cells = YC ∧ YC.length = 38 ∧ ∀ v ∈ YC, v.oneCell' = true from ⟨hYC, by rw [← hYC]; exact Tik.cells_length y, by rw [← hYC]; exact Tik.one y⟩)
    have HV := Lib.hid (show R = .tuple #[.agg YC.toArray, .bool true] from by
      have : getT r g L = some y := hg; rw [← HR.out, this, ← hYC]; rfl)
    have hlt := (List.getElem?_eq_some_iff.1 hy).1; obtain ⟨gg, cap, hv, hr⟩ := own_elem (HT.out w2 K2.out).own hy; rw [hYC] at hr; have HRG := Lib.hid hr; have c0 : w2.cell? ⟨t, 0, none⟩ = some v := (HT.out w2 K2.out).blk.get rfl; obtain ⟨ln, hln⟩ : ∃ ln, L.length = ln := ⟨_, rfl⟩
    rw [hln] at hv hlt; rw [hv] at c0; have f1 : decide ((i : Int) < (ln : Nat)) = true := decide_eq_true (by omega); have f1n : decide (i < ln) = true := decide_eq_true hlt; clear hit hpi hg hy hys hYC hr hln hv
    go_wp2_with (first | ((with_reducible refine gL 30 29 ?_); refine gl gg (i * 38) YC HRG.out (by rw [HYC.out.2.1]; kernel_rfl) ?_; try simp only [sq]) | ((with_reducible refine gS 6 30 ?_); refine wpList_store_mid rfl 51 (.tmp 6) (.tmp 30) rfl n 0 YC.toArray (by rfl) (by rfl) (by simp only [List.size_toArray, HYC.out.2.1]; exact (HTR.out _ K2.out)) (by simp only [List.size_toArray, HYC.out.2.1]; kernel_rfl) (all_oneCell_toArray HYC.out.2.2) ?_) | fail); have hload := run_loadVar_mid (P := Tryz.prog) (w2.setCells n 0 YC) n 0 51 YC _ (World.rangeAt_setCells_same w2 n 0 YC (by rw [HYC.out.2.1]; exact (HTR.out _ K2.out))) Tryz.underlying51 rfl (by rw [HYC.out.2.1]; kernel_rfl); refine bodyPost_ret (v := .tuple #[.agg YC.toArray, .bool true]) (by simp [Act.put, results, Tryz.results66, asAddr, Result.andThen, hload]) rfl ⟨by rw [HV.out], Keep.cellsTo n (fun hh => by have := HN.out; omega) _ _ _ (K1.out.trans K2.out)⟩
theorem ticket_Drop {S0 : List Nat} (t most : Nat) (L : List Tik) (r g : List UInt8) (w : World) (h : Tb S0 w t most L) :
    Calls Tryz.prog 130 #[.pointer (some ⟨t, 0, none⟩), .string (S r), .string (S g)] w fun e w' => (∃ b, e = .returned (.bool b)) ∧ ∃ S', Tb S' w' t most (dropT r g L) ∧ Grow S0 w S' w' := by
  obtain ⟨v, h1, h2, h3⟩ := h; obtain ⟨QC, hQC⟩ : ∃ z, (qT r g).cells = z := ⟨_, rfl⟩
  have HQC := Lib.hid hQC; have HT := Lib.hid h1; have HS := Lib.hid (And.intro h2 h3); have HFI := Lib.hid (ticket_find t v most L (qT r g) QC hQC w h1); clear h1 h2 h3 hQC; go_enter Tryz.func130, Tryz.ntmps130
  go_wp2_with (first | ((with_reducible refine gB 15 ?_); refine wpList_build_is rfl 51 _ rfl QC (by rw [← HQC.out]; kernel_rfl) ?_; simp only [sq]) | fail); refine HFI.out.mono ?_; rintro e w2 ⟨rfl, k2⟩; have K2 := Lib.hid k2; have HT2 := Lib.hid (HT.out.keep0 k2); clear k2 HFI
  cases hit : isT (qT r g) L with
  | false =>
    have hd : dropT r g L = L := drop_none (x := qT r g) (isT_false HT.out.asc hit); have HD := Lib.hid hd; clear hit hd; go_wp2_with fail; go_ret; exact ⟨⟨_, rfl⟩, by rw [HD.out]; exact Tb.of HS.out.1 HS.out.2 HT2.out (K2.out.mono (by simp)) (.inl rfl)⟩
  | true =>
    obtain ⟨y, hy, hys⟩ := isT_true hit; have hd : L.eraseIdx (posT (qT r g) L) = dropT r g L := dropT_at HT.out.asc hy hys; obtain ⟨i, hpi⟩ : ∃ i, posT (qT r g) L = i := ⟨_, rfl⟩
    rw [hpi] at hy hd ⊢; have hlt := (List.getElem?_eq_some_iff.1 hy).1; have hde := tik_Delete w2 v L i HT2.out.own hlt; rw [hd] at hde; have HDE := Lib.hid hde; obtain ⟨a, cap, hv, _⟩ := HT2.out.own.shape; have c0 : w2.cell? ⟨t, 0, none⟩ = some v := HT2.out.blk.get rfl; have wk := IntWalk.i64_in ((i : Int) + 1) (by have := HT2.out.len; have := HT2.out.m64; omega); have HVV := Lib.hid hv; clear hit hpi hy hys hd hlt hde hv; go_wp2_with fail; refine HDE.out.mono ?_; rintro e wd ⟨v', rfl, ho', hto'⟩; obtain ⟨sa, sc, rfl, _⟩ := ho'.shape; have bt := hto'.1.blk HT2.out.blk (fun hm => HT2.out.ne t (by simpa using hm) rfl); have c1 : wd.cell? ⟨t, 0, none⟩ = some v := bt.get rfl; have f1 := bt.frozen 0; have HAF := Lib.hid (HT2.out.after ho' hto' (drop_asc HT2.out.asc r g) (Nat.le_trans (drop_len r g L) HT2.out.len)); have HTO := Lib.hid hto'.2; clear ho' hto' bt HDE; go_wp2_with fail; go_ret; refine ⟨⟨_, rfl⟩, Tb.of HS.out.1 HS.out.2 HAF.out.1 ((K2.out.mono (by simp)).trans HAF.out.2) ?_⟩; rcases HTO.out with e | ⟨q, hq, hq2⟩
    · exact .inl e
    · exact .inr ⟨q, hq, Nat.le_trans K2.out.size hq2⟩
theorem ticket_List (t most : Nat) (v : Value) (L : List Tik) (w : World) (h : TbW w t v most L) :
    Calls Tryz.prog 37 #[.pointer (some ⟨t, 0, none⟩)] w fun e w' => ∃ v', e = .returned v' ∧ Own Tik.cells 38 w.heap.size 51 w' v' L ∧ Keep [] w w' := by
  have HC := Lib.hid (tik_Clone w v L h.own (by have := h.len; have := h.m64; omega)); have c0 : w.cell? ⟨t, 0, none⟩ = some v := h.blk.get rfl; clear h; go_enter Tryz.func37, Tryz.ntmps37; go_wp2_with fail; refine HC.out.mono ?_; rintro e w2 ⟨v', rfl, ho, k⟩; have HO := Lib.hid (And.intro ho k); clear ho k; go_wp2_with fail; go_ret; exact ⟨v', rfl, HO.out⟩
theorem ticket_New (w : World) : Calls Tryz.prog 80 #[.int .i64 64] w fun e w' => ∃ t, e = .returned (.tuple #[.pointer (some ⟨t, 0, none⟩), .int .i64 0]) ∧ ∃ S', Tb S' w' t 64 [] ∧ Keep [] w w' ∧ ∀ k ∈ S', w.heap.size ≤ k := by
  have HW := Lib.hid (ticket_within 64 1 64 w); have hd : decide ((1 : Int) ≤ 64 ∧ (64 : Int) ≤ 64) = true := by decide
  rw [hd] at HW; have hb := Blk.newA w #[.slice none 0 0, .int .i64 64] 133
  have HR := Lib.hid (show Tb [w.heap.size] (w.alloc (.cells #[.slice none 0 0, .int .i64 64] 133)) w.heap.size 64 [] ∧ Keep [] w (w.alloc (.cells #[.slice none 0 0, .int .i64 64] 133)) from
    ⟨⟨.slice none 0 0, ⟨hb, Own.nil _ _ _ _ _, by simp [Value.ownBlock], List.Pairwise.nil, Nat.zero_le _, by omega, by omega⟩, by simp, by simp [Value.ownBlock]⟩, (Keep.refl _ _).alloc _⟩)
  clear hb hd; go_enter Tryz.func80, Tryz.ntmps80; go_wp2_with fail; refine HW.out.mono ?_; rintro e we ⟨rfl, rfl⟩; go_wp2_with fail; go_ret2; exact ⟨_, rfl, _, HR.out.1, HR.out.2, by simp⟩
end Go.Proofs.YtkghgaopcgcheaaGreatDoor
