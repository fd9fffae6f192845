/- Parts of the proof of StockReplays, in order. No conditions but those that each theorem states. -/
import Derived.Test.YtkghgaopcgcheaaGreatDoorYStockReplays0
import Derived.Deep.RegionHeld3
import Derived.Deep.Cut
import Derived.Deep.DeepCutAuto
import Derived.Deep.LoopGhost
import Derived.Deep.AppendLies
import Derived.Deep.RegionLaw
import Derived.Lib.ItoaNum
import Derived.Lib.SlTrimSet
import Derived.Lib.SlBytesConst
import Derived.Test.YtkghgaopcgcheaaGreatDoorYStockReplays28
set_option maxRecDepth 100000
set_option maxHeartbeats 16000000
set_option linter.unusedSimpArgs false
set_option linter.unusedVariables false
namespace Go.Proofs.YtkghgaopcgcheaaGreatDoor
open Go.RowKit Go.Maps
structure PutS (rv : Value) (budget : Int) (w w5 : World) (u : Nat) (v v5 : Value) (n n6 : Nat) (XC : List Value) (L2 : List Tik) : Prop where
  dt : Dt rv budget w5 u v5 L2
  kp : Keep [u] w w5
  vb : ∀ g, v5.ownBlock = some g → v5.ownBlock = v.ownBlock ∨ n + 2 ≤ g
  bx : Blk w5 n 51 XC
  bz : Blk w5 (n + 1) 51 Tik.zero.cells
  bg : ∃ GC : List Value, GC.length = 38 ∧ (∀ v ∈ GC, v.oneCell' = true) ∧ Blk w5 n6 51 GC
  ne : u < n ∧ n + 2 ≤ n6 ∧ w.heap.size = n
  vl : ∀ g, v.ownBlock = some g → g < n
  len : L2.length ≤ 64
theorem PutS.keep0 {rv : Value} {budget : Int} {w w5 w6 : World} {u : Nat} {v v5 : Value} {n n6 : Nat} {XC : List Value} {L2 : List Tik} (h : PutS rv budget w w5 u v v5 n n6 XC L2) (k : Keep [] w5 w6) : PutS rv budget w w6 u v v5 n n6 XC L2 := by
  obtain ⟨GC, g1, g2, g3⟩ := h.bg; exact ⟨h.dt.keep0 k, h.kp.trans' k (by simp), h.vb, k.blk h.bx (by simp), k.blk h.bz (by simp), ⟨GC, g1, g2, k.blk g3 (by simp)⟩, h.ne, h.vl, h.len⟩
theorem PutS.res {rv : Value} {budget : Int} {w w5 w9 : World} {u : Nat} {v v5 : Value} {n n6 : Nat} {XC : List Value} {L2 M : List Tik} (h : PutS rv budget w w5 u v v5 n n6 XC L2) (hd : DoneT rv budget w5 w9 u v5 M) (GC : List Value) :
    DoneT rv budget w (w9.setCells (n + 1) 0 GC) u v M := by
  obtain ⟨v9, d9, k9, h9⟩ := hd; obtain ⟨G, _, _, g3⟩ := h.bg; have hne := h.ne; have h6 := g3.lt
  have hb : ∀ g, v9.ownBlock = some g → v9.ownBlock = v.ownBlock ∨ n + 2 ≤ g := fun g hg => by
    rcases h9 g hg with e | e
    · rcases h.vb g (e ▸ hg) with e2 | e2
      · exact .inl (e.trans e2)
      · exact .inr e2
    · exact .inr (by omega)
  have kk : Keep [n + 1] w9 (w9.setCells (n + 1) 0 GC) := Keep.cellsTo (n + 1) (fun _ => by simp) GC 0 w9 (Keep.refl _ _); refine ⟨v9, d9.keep kk (by simp; omega) (fun g hg => ?_), ?_, fun g hg => (hb g hg).imp id (fun e => by omega)⟩
  · simp; rcases hb g hg with e | e
    · have := h.vl g (e ▸ hg); omega
    · omega
  · exact Keep.cellsTo (n + 1) (fun hh => by omega) GC 0 w9 (h.kp.trans k9)
section
variable {rv : Value} {budget : Int} {u : Nat} {v : Value} {L : List Tik}
theorem ref20_Put (w : World) (h : Dt rv budget w u v L) (hL : L.length ≤ 64) (x : Tik) (XC : List Value) (hx : x.cells = XC) :
    Calls Tryz.prog 61 #[.pointer (some ⟨u, 0, none⟩), .agg XC.toArray] w fun e w' => (∃ r, e = .returned r) ∧ DoneT rv budget w w' u v (putT 64 L x) := by
  obtain ⟨is, Hs⟩ := tikinfo'; obtain ⟨PT, hPT⟩ : ∃ z, putT 64 L x = z := ⟨_, rfl⟩
  have hpt : putT 64 L x = insT x (if 64 ≤ (dropT x.repo x.tag L).length then (match oldT (dropT x.repo x.tag L) with | none => dropT x.repo x.tag L | some z => dropT z.repo z.tag (dropT x.repo x.tag L)) else dropT x.repo x.tag L) := rfl; have hL1 := drop_len x.repo x.tag L; obtain ⟨L1, hL1e⟩ : ∃ z, dropT x.repo x.tag L = z := ⟨_, rfl⟩
  rw [hL1e] at hpt hL1; rw [hPT] at hpt ⊢; have HPT0 := Lib.hid hpt; have HXC := Lib.hid (show x.cells = XC ∧ XC.length = 38 from ⟨hx, by rw [← hx]; exact Tik.cells_length _⟩); obtain ⟨ZC, hZC⟩ : ∃ z, Tik.zero.cells = z := ⟨_, rfl⟩
  have HZC := Lib.hid (show Tik.zero.cells = ZC ∧ ZC.length = 38 ∧ ∀ v ∈ ZC, v.oneCell' = true from ⟨hZC, by rw [← hZC]; exact Tik.cells_length _, by rw [← hZC]; exact Tik.one _⟩); obtain ⟨n, hn⟩ : ∃ n, w.heap.size = n := ⟨_, rfl⟩
  have k1 := (Keep.refl [] w).alloc (.cells XC.toArray 51); have b1 := Blk.new w XC 51; have z1 := alloc_size w (.cells XC.toArray 51); rw [hn] at b1 z1; have k2 := k1.alloc (.cells Tik.zero.cells.toArray 51); have b12 := b1.alloc (.cells Tik.zero.cells.toArray 51); have b2 := Blk.new (w.alloc (.cells XC.toArray 51)) Tik.zero.cells 51; rw [z1] at b2; go_enter Tryz.func61, Tryz.ntmps61
  go_upto_region 1 with fail
  (try simp only [hn]); rw [eqT8]; generalize (w.alloc (.cells XC.toArray 51)).alloc (.cells Tik.zero.cells.toArray 51) = w2 at k2 b12 b2 ⊢; have c0 := b12.get (show XC[0]? = _ by rw [← hx]; exact x.at0); have c1 := b12.get (show XC[1]? = _ by rw [← hx]; exact x.at1); have HDR := Lib.hid (ref20_Drop w2 (h.keep0 k2) (by omega) x.repo x.tag); rw [hL1e] at HDR; have H2 := Lib.hid (show Keep [] w w2 ∧ Blk w2 n 51 XC ∧ Blk w2 (n + 1) 51 Tik.zero.cells ∧ u < n ∧ w.heap.size = n ∧ ∀ g, v.ownBlock = some g → g < n from ⟨k2, b12, b2, by rw [← hn]; exact h.blk.lt, hn, fun g hg => by rw [← hn]; exact (h.own.lt g hg).2⟩); clear h k1 b1 z1 k2 b12 b2 hx hn hPT hL1e hpt hZC; go_wp2_with fail; refine HDR.out.mono ?_; rintro e w3 ⟨⟨rb, rfl⟩, v2, d2, k3, hv2⟩; have H3 := Lib.hid (show Dt rv budget w3 u v2 L1 ∧ Keep [u] w2 w3 ∧ ∀ g, v2.ownBlock = some g → v2.ownBlock = v.ownBlock ∨ n + 2 ≤ g from ⟨d2, k3, fun g hg => (hv2 g hg).imp id (fun e => by have := H2.out.2.2.1.lt; omega)⟩); clear d2 k3 hv2 HDR c0 c1
  go_upto_region 3 with (first | ((with_reducible refine gB 19 ?_); refine wpList_build_is rfl 51 _ rfl ZC (by rw [← HZC.out.1]; kernel_rfl) ?_; try simp only [sq]) | ((with_reducible refine gS 6 19 ?_); refine wpList_store_new rfl 51 (.tmp 6) (.tmp 19) rfl _ ZC (by rfl) (by rfl) (by rw [HZC.out.2.1]; kernel_rfl) (by rw [HZC.out.2.1]; kernel_rfl) HZC.out.2.2 ?_) | fail)
  obtain ⟨n6, hn6⟩ : ∃ n, w3.heap.size = n := ⟨_, rfl⟩
  have b4 := Blk.new w3 ZC 51; rw [hn6] at b4; (try rw [hn6]); have k4 := (Keep.refl [] w3).alloc (.cells ZC.toArray 51); generalize w3.alloc (.cells ZC.toArray 51) = w4 at k4 b4 ⊢
  have H4 := Lib.hid (show PutS rv budget w w4 u v v2 n n6 XC L1 from
    ⟨H3.out.1.keep0 k4, ((H2.out.1.mono (by simp)).trans H3.out.2.1).trans' k4 (by simp), H3.out.2.2, k4.blk (H3.out.2.1.blk H2.out.2.1 (by simp; have := H2.out.2.2.2.1; omega)) (by simp), k4.blk (H3.out.2.1.blk H2.out.2.2.1 (by simp; have := H2.out.2.2.2.1; omega)) (by simp),
      ⟨ZC, HZC.out.2.1, HZC.out.2.2, b4⟩, ⟨H2.out.2.2.2.1, by have := (H3.out.2.1.blk H2.out.2.2.1 (by simp; have := H2.out.2.2.2.1; omega)).lt; omega, H2.out.2.2.2.2.1⟩, H2.out.2.2.2.2.2, by omega⟩)
  have HN6 := Lib.hid (show w3.heap.size = n6 from hn6); clear k4 b4 hn6; obtain ⟨a1, cp1, rfl, _⟩ := H4.out.dt.own.shape; have HC3 := Lib.hid (show ∀ w', Keep [] w4 w' → w'.cell? ⟨u, 0, none⟩ = some (.slice a1 L1.length cp1) ∧ w'.cell? ⟨u, 1, none⟩ = some (.int .i64 64) from fun w' k => ⟨(H4.out.dt.keep0 k).blk.get rfl, (H4.out.dt.keep0 k).blk.get rfl⟩); obtain ⟨fb, hfb⟩ : ∃ z, decide ((L1.length : Int) ≥ 64) = z := ⟨_, rfl⟩
  have hfb2 : decide ((64 : Int) ≤ (L1.length : Int)) = fb := hfb; try simp only [Act.put]
  go_upto_region 3 with fail
  refine wp_region_held_drew (S := fun w' => Keep [] w4 w') (by kernel_rfl) ((Keep.refl [] w4).drew) (fun hHeld => ?_); refine gW 0 ?_; (try simp only [sq]); refine gW 1 ?_; (try simp only [sq]); refine gW 2 ?_; (try simp only [sq]); refine gV 3 (v := ?_) ?_ ?_; rotate_left
  · (intro w' hSw; obtain ⟨d0, d1⟩ := HC3.out w' hSw; go_simp) <;> (with_reducible rfl)
  (try simp only [sq]); refine gW 4 ?_; (try simp only [sq]); refine gW 5 ?_; (try simp only [sq]); refine gW 6 ?_; (try simp only [sq]); refine gW 7 ?_; (try simp only [sq]); refine gV 8 (v := ?_) ?_ ?_; rotate_left
  · (intro w' hSw; obtain ⟨d0, d1⟩ := HC3.out w' hSw; go_simp) <;> (with_reducible rfl)
  (try simp only [sq]); refine gW 9 ?_; (try simp only [sq]); refine gW 10 ?_; (try simp only [sq]); refine wpAnyH_done (by kernel_rfl) ?_ _; have KX := Lib.hid hHeld; clear hHeld
  go_upto_if 30 with fail
  go_cut [] (fun wx => ∃ (v5 : Value) (L2 : List Tik), Hid (PutS rv budget w wx u v v5 n n6 XC L2) ∧ Hid (PT = insT x L2))
  case first =>
   cases fb with
   | false =>
    have HPT := Lib.hid (show PT = insT x L1 by rw [HPT0.out, if_neg (by have := of_decide_eq_false hfb; omega)]); have H5 := Lib.hid (H4.out.keep0 KX.out); clear hfb hfb2; go_wp2_with fail; go_meet; exact ⟨_, L1, H5, HPT⟩
   | true =>
    have h64 : 64 ≤ L1.length := by have := of_decide_eq_true hfb; omega
    have HL0 := Lib.hid (show L1 ≠ [] from fun e => by rw [e] at h64; simp at h64); have hPT1 := HPT0.out; rw [if_pos h64] at hPT1; have HPT1 := Lib.hid hPT1; have HD4 := Lib.hid (fun w' (k : Keep [] w4 w') => H4.out.dt.keep0 k); have d0 := (HD4.out _ KX.out).blk.get (k := 0) rfl; clear hfb hfb2 h64 hPT1; go_wp2_with fail; clear d0
    go_loopg [8, 9] L1.length (fun g0 s8 s9 wr => ∃ k i : Nat, s8 = .int .i64 (k : Nat) ∧ s9 = .int .i64 (i : Nat) ∧ i ≤ L1.length ∧ g0 = L1.length - i ∧ Hid (oldAtT L1 i k) ∧ Hid (Keep [] w4 wr))
    case atStart => exact ⟨0, 0, rfl, rfl, Nat.zero_le _, rfl, Lib.hid (.inl ⟨rfl, rfl⟩), KX⟩
    case round =>
      obtain ⟨k, i, rfl, rfl, hi, hgi, HOA, HK⟩ := hrel; have d0 := (HD4.out wr HK.out).blk.get (k := 0) rfl; by_cases hlt : i < L1.length
      · obtain ⟨y, hy⟩ : ∃ y, L1[i]? = some y := ⟨_, List.getElem?_eq_getElem hlt⟩
        obtain ⟨z, hz, hoa⟩ := oldAtT_step HOA.out hy; have hkl := (List.getElem?_eq_some_iff.1 hz).1; obtain ⟨ga, cp, hv, hr⟩ := own_elem (HD4.out wr HK.out).own hy; cases hv; obtain ⟨ga2, cp2, hv2, hr2⟩ := own_elem (HD4.out wr HK.out).own hz; cases hv2; have f1 : decide ((i : Int) < (L1.length : Nat)) = true := decide_eq_true (by omega); have f1n : decide (i < L1.length) = true := decide_eq_true hlt; have f2 : decide ((k : Int) < (L1.length : Nat)) = true := decide_eq_true (by omega); have f2n : decide (k < L1.length) = true := decide_eq_true hkl; have wk := IntWalk.i64_in ((i : Int) + 1) (by omega)
        have HC9 := Lib.hid (show ∀ w', Keep [] wr w' → w'.cell? ⟨u, 0, none⟩ = some (.slice (some ⟨ga, 0, none⟩) L1.length _) ∧ w'.cell? ⟨ga, i * 38 + 37, none⟩ = some (.int .i64 y.tick) ∧ w'.cell? ⟨ga, k * 38 + 37, none⟩ = some (.int .i64 z.tick) from fun w' k' =>
          ⟨k'.load d0, k'.load (hr 37 _ y.at37), k'.load (hr2 37 _ z.at37)⟩)
        obtain ⟨ty, hty⟩ : ∃ t, y.tick = t := ⟨_, rfl⟩
        obtain ⟨tz, htz⟩ : ∃ t, z.tick = t := ⟨_, rfl⟩
        rw [hty, htz] at HC9 hoa; have HOB := Lib.hid hoa; clear hy hz hoa hr hr2 hty htz; obtain ⟨lb, hlb⟩ : ∃ z, decide (ty < tz) = z := ⟨_, rfl⟩
        go_upto_region 9 with fail
        refine wp_region_held_drew (S := fun w' => Keep [] wr w') (by kernel_rfl) ((Keep.refl [] wr).drew) (fun hHeld => ?_); refine gW 0 ?_; (try simp only [sq]); refine gW 1 ?_; (try simp only [sq]); refine gW 2 ?_; (try simp only [sq]); refine gV 3 (v := ?_) ?_ ?_; rotate_left
        · (intro w' hSw; obtain ⟨d0, e1, e2⟩ := HC9.out w' hSw; go_simp) <;> (with_reducible rfl)
        (try simp only [sq]); refine gW 4 ?_; (try simp only [sq]); refine gW 5 ?_; (try simp only [sq]); refine gW 6 ?_; (try simp only [sq]); refine gV 7 (v := ?_) ?_ ?_; rotate_left
        · (intro w' hSw; obtain ⟨d0, e1, e2⟩ := HC9.out w' hSw; go_simp) <;> (with_reducible rfl)
        (try simp only [sq]); refine gW 8 ?_; (try simp only [sq]); refine gW 9 ?_; (try simp only [sq]); refine gW 10 ?_; (try simp only [sq]); refine gV 11 (v := ?_) ?_ ?_; rotate_left
        · (intro w' hSw; obtain ⟨d0, e1, e2⟩ := HC9.out w' hSw; go_simp) <;> (with_reducible rfl)
        (try simp only [sq]); refine gW 12 ?_; (try simp only [sq]); refine gW 13 ?_; (try simp only [sq]); refine gW 14 ?_; (try simp only [sq]); refine gV 15 (v := ?_) ?_ ?_; rotate_left
        · (intro w' hSw; obtain ⟨d0, e1, e2⟩ := HC9.out w' hSw; go_simp) <;> (with_reducible rfl)
        (try simp only [sq]); refine gW 16 ?_; (try simp only [sq]); refine wpAnyH_done (by kernel_rfl) ?_ _; have HKX := Lib.hid (HK.out.trans hHeld); clear hHeld
        cases lb with
        | true =>
          have hlt' := of_decide_eq_true hlb; have HOC := Lib.hid (show oldAtT L1 (i + 1) i by have := HOB.out; rwa [if_pos hlt'] at this); clear hlb hlt'; go_wp2_with fail
          go_roundg (L1.length - (i + 1))
          case measure => omega
          case rel => exact ⟨i, i + 1, rfl, by go_num, by omega, rfl, HOC, HKX⟩
        | false =>
          have hlt' := of_decide_eq_false hlb; have HOC := Lib.hid (show oldAtT L1 (i + 1) k by have := HOB.out; rwa [if_neg hlt'] at this); clear hlb hlt'; go_wp2_with fail
          go_roundg (L1.length - (i + 1))
          case measure => omega
          case rel => exact ⟨k, i + 1, rfl, by go_num, by omega, rfl, HOC, HKX⟩
      · have hie : i = L1.length := by omega
        have f1 : decide ((i : Int) < (L1.length : Nat)) = false := decide_eq_false (by omega); subst hie; obtain ⟨z, hz, hoz⟩ := oldAtT_end HOA.out HL0.out; have HPT := Lib.hid (show PT = insT x (dropT z.repo z.tag L1) by rw [HPT1.out, hoz]); have hkl := (List.getElem?_eq_some_iff.1 hz).1; have f2 : decide ((k : Int) < (L1.length : Nat)) = true := decide_eq_true (by omega); have f2n : decide (k < L1.length) = true := decide_eq_true hkl; obtain ⟨ga2, cp2, hv2, hr2⟩ := own_elem (HD4.out wr HK.out).own hz; cases hv2; obtain ⟨ZZ, hZZ⟩ : ∃ q, z.cells = q := ⟨_, rfl⟩
        have HZZ := Lib.hid (show z.cells = ZZ ∧ ZZ.length = 38 ∧ ∀ v ∈ ZZ, v.oneCell' = true from ⟨hZZ, by rw [← hZZ]; exact Tik.cells_length _, by rw [← hZZ]; exact Tik.one _⟩); rw [hZZ] at hr2; have HR2 := Lib.hid hr2; have HWR := Lib.hid (H4.out.keep0 HK.out); obtain ⟨G0, g01, g02, g03⟩ := HWR.out.bg; have HTH := Lib.hid (show World.there wr n6 0 38 from g03.thr 0 38 (by omega)); have hset := Blk.setAll (show Blk wr n6 51 G0 from g03) ZZ (by rw [HZZ.out.2.1, g01]); obtain ⟨w6, hw6⟩ : ∃ q, wr.setCells n6 0 ZZ = q := ⟨_, rfl⟩
        have k6 : Keep [n6] wr w6 := by rw [← hw6]; exact Keep.cellsTo n6 (fun _ => by simp) ZZ 0 wr (Keep.refl _ _)
        rw [hw6] at hset
        have H6 := Lib.hid (show PutS rv budget w w6 u v _ n n6 XC L1 from
          ⟨HWR.out.dt.keep k6 (by simp; have := HWR.out.ne; omega) (fun g hg => by
              simp; rcases HWR.out.vb g hg with e | e
              · have := HWR.out.vl g (e ▸ hg); have := HWR.out.ne; omega
              · have h1 := (H3.out.1.own.lt g hg).2; have h2 := H4.out.ne; have h3 := HN6.out; omega), HWR.out.kp.trans' k6 (fun q hq hl => by simp at hq; have := HWR.out.ne; omega), HWR.out.vb, k6.blk HWR.out.bx (by simp; have := HWR.out.ne; omega), k6.blk HWR.out.bz (by simp; have := HWR.out.ne; omega), ⟨ZZ, HZZ.out.2.1, HZZ.out.2.2, hset⟩, HWR.out.ne, HWR.out.vl, HWR.out.len⟩)
        have c0 := hset.get (show ZZ[0]? = _ by rw [← hZZ]; exact z.at0); have c1 := hset.get (show ZZ[1]? = _ by rw [← hZZ]; exact z.at1); have HW6 := Lib.hid hw6; clear hz hoz hr2 hZZ g01 g02 g03 hset k6 hw6
        go_upto_region 12 with (first | ((with_reducible refine gL 64 63 ?_); refine gl ga2 (k * 38) ZZ HR2.out (by rw [HZZ.out.2.1]; kernel_rfl) ?_; try simp only [sq]) | ((with_reducible refine gS 6 64 ?_); refine wpList_store_mid rfl 51 (.tmp 6) (.tmp 64) rfl n6 0 ZZ.toArray (by rfl) (by rfl) (by simp only [List.size_toArray, HZZ.out.2.1]; exact HTH.out) (by simp only [List.size_toArray, HZZ.out.2.1]; kernel_rfl) (all_oneCell_toArray HZZ.out.2.2) ?_) | fail)
        (try simp only [List.toList_toArray]); rw [HW6.out]; (try simp only [Act.put]); have HDR := Lib.hid (ref20_Drop w6 H6.out.dt (by have := H6.out.len; omega) z.repo z.tag); clear HW6 d0; go_wp2_with fail; refine HDR.out.mono ?_; rintro e w5 ⟨⟨rb2, rfl⟩, v5, d5, k5, hv5⟩; obtain ⟨L2, hL2⟩ : ∃ q, dropT z.repo z.tag L1 = q := ⟨_, rfl⟩
        have hl2' := drop_len z.repo z.tag L1; rw [hL2] at d5 hl2' HPT; obtain ⟨G5, g51, g52, g53⟩ := H6.out.bg
        have H5 := Lib.hid (show PutS rv budget w w5 u v v5 n n6 XC L2 from
          ⟨d5, H6.out.kp.trans k5, fun g hg => by
            rcases hv5 g hg with e | e
            · rcases H6.out.vb g (e ▸ hg) with e2 | e2
              · exact .inl (e.trans e2)
              · exact .inr e2
            · exact .inr (by have := g53.lt; have := H6.out.ne; omega), k5.blk H6.out.bx (by simp; have := H6.out.ne; omega), k5.blk H6.out.bz (by simp; have := H6.out.ne; omega), ⟨G5, g51, g52, k5.blk g53 (by simp; have := H6.out.ne; omega)⟩, H6.out.ne, H6.out.vl, by have := H6.out.len; omega⟩)
        clear d5 k5 hv5 hL2 hl2' g51 g52 g53 HDR c0 c1; go_wp2_with fail; go_meet; exact ⟨v5, L2, H5, HPT⟩
  case rest =>
    obtain ⟨v5, L2, H5, HPT⟩ := hcut; have HD := Lib.hid (fun w' (k : Keep [] wc w') => H5.out.dt.keep0 k); have HBX := Lib.hid (fun w' (k : Keep [] wc w') => (k.blk H5.out.bx (by simp)).rng); have hl2 := H5.out.len; have hN := Own.none (base := wc.heap.size) Tik.cells 38 51 wc (Nat.le_refl _); have kA := (Keep.refl [] wc).alloc (.cells #[] 51)
    go_upto_region 14 with fail
    generalize wc.alloc (.cells #[] 51) = wA at kA hN ⊢; have HA := Lib.hid (And.intro kA hN); clear kA hN; obtain ⟨a2, c2, rfl, hml2⟩ := H5.out.dt.own.shape; have d0 := (HD.out wA HA.out.1).blk.get (k := 0) rfl; go_wp2_with fail; clear d0
    go_loopg [10, 11, 12] L2.length (fun g0 s10 s11 s12 wr => ∃ k : Nat, s12 = .int .i64 (k : Nat) ∧ s11 = .bool (doneT x (L2.take k)) ∧ k ≤ L2.length ∧ g0 = L2.length - k ∧ Hid (Keep [] wc wr) ∧ Hid (Own Tik.cells 38 wc.heap.size 51 wr s10 (curT x (L2.take k))))
    case atStart => exact ⟨0, rfl, rfl, Nat.zero_le _, rfl, Lib.hid HA.out.1, Lib.hid HA.out.2⟩
    case round =>
      obtain ⟨k, rfl, rfl, hk, hgk, HK, HV⟩ := hrel; have d0 := (HD.out wr HK.out).blk.get (k := 0) rfl; by_cases hlt : k < L2.length
      · obtain ⟨y, hy⟩ : ∃ y, L2[k]? = some y := ⟨_, List.getElem?_eq_getElem hlt⟩
        obtain ⟨ga, cp, hv, hr⟩ := own_elem (HD.out wr HK.out).own hy; cases hv; have f1 : decide ((k : Int) < (L2.length : Nat)) = true := decide_eq_true (by omega); have f1n : decide (k < L2.length) = true := decide_eq_true hlt; have wk := IntWalk.i64_in ((k : Int) + 1) (by omega)
        have hln : (curT x (L2.take k)).length ≤ k + 1 := by
          unfold curT
          split
          · rw [insT_length, List.length_take]; omega
          · rw [List.length_take]; omega
        have hdn : doneT x (L2.take (k + 1)) = (doneT x (L2.take k) || aheadT x y) := by rw [List.take_add_one, hy]; exact done_snoc x y _
        have hcu : curT x (L2.take (k + 1)) = (if !doneT x (L2.take k) && aheadT x y then curT x (L2.take k) ++ [x] else curT x (L2.take k)) ++ [y] := by rw [List.take_add_one, hy]; exact cur_snoc x y _
        obtain ⟨YC, hYC⟩ : ∃ z, y.cells = z := ⟨_, rfl⟩
        have HYC := Lib.hid (show y.cells = YC ∧ YC.length = 38 from ⟨hYC, by rw [← hYC]; exact Tik.cells_length _⟩)
        have HYR0 := Lib.hid (show ∀ w', Keep [] wc w' → w'.rangeAt ga (k * 38) YC from fun w' k' => by
          obtain ⟨ga2, cp2, hv2, hr2⟩ := own_elem (HD.out w' k').own hy; cases hv2; rw [hYC] at hr2; exact hr2)
        have HAH := Lib.hid (fun w' => ref20_ahead x y XC YC HXC.out.1 hYC w'); obtain ⟨dn, hdn'⟩ : ∃ z, doneT x (L2.take k) = z := ⟨_, rfl⟩
        rw [hdn'] at hdn hcu ⊢; obtain ⟨ah, hah⟩ : ∃ z, aheadT x y = z := ⟨_, rfl⟩
        rw [hah] at hdn hcu HAH; clear hy hr hYC hdn' hah
        cases dn with
        | true =>
          have HCU := Lib.hid (show doneT x (L2.take (k + 1)) = true ∧ curT x (L2.take (k + 1)) = curT x (L2.take k) ++ [y] from ⟨by rw [hdn]; rfl, by rw [hcu]; rfl⟩); clear hdn hcu
          go_upto_region 18 with fail
          refine wp_region_held_drew (S := fun w' => Keep [] wr w') (by kernel_rfl) ((Keep.refl [] wr).drew) (fun hHeld => ?_); refine gW 0 ?_; (try simp only [sq]); refine gW 1 ?_; (try simp only [sq]); refine gW 2 ?_; (try simp only [sq]); refine gN 3 ?_; (try simp only [sq]); refine gN 4 ?_; (try simp only [sq]); refine gN 5 ?_; (try simp only [sq]); refine gN 6 ?_; (try simp only [sq]); refine gN 7 ?_; (try simp only [sq]); refine gN 8 ?_; (try simp only [sq]); refine gN 9 ?_; (try simp only [sq]); refine gN 10 ?_; (try simp only [sq]); refine gN 11 ?_; (try simp only [sq]); refine gW 12 ?_; (try simp only [sq]); refine wpAnyH_done (by kernel_rfl) ?_ _; have HKX := Lib.hid hHeld; have HKW := Lib.hid (HK.out.trans HKX.out); have HVW := Lib.hid (HV.out.keep0 HKX.out); have d0 := (HD.out _ HKW.out).blk.get (k := 0) rfl; clear hHeld; have HYR := Lib.hid (HYR0.out _ HKW.out)
          go_wp2_with (first | ((with_reducible refine gL 105 104 ?_); refine gl ga (k * 38) YC HYR.out (by rw [HYC.out.2]; kernel_rfl) ?_; try simp only [sq]) | (refine wpList_buildOne rfl 28 51 (.tmp 105) rfl Hs (by omega) (by omega) Tryz.underlying28 YC HYC.out.2 (by rfl) ?_) | (at_builtin; go_must (refine wpList_append3 rfl _ _ 28 rfl is _ 104 Tryz.underlying28 Hs (by rfl) (by decide) Tik.cells_length Tik.one (World.drew wr) (HKW.out.size) (by rfl) HVW.out y _ HYC.out.1.symm _ (by rfl) (by show _ + 1 ≤ 9223372036854775807; omega) (by omega) ?_); intro v' w6 hown' hgr hat) | fail); have K4 := Lib.hid (show Keep [] wc w6 from HKW.out.trans' (Keep.grown' hgr (S := u10.ownBlock.toList) (fun k hk _ => by rw [hk]; simp)) (fun x hx hl => by simp at hx; have := (HV.out.lt x hx).1; omega)); have HV4 := Lib.hid hown'; clear hown' hgr hat; go_wp2_with fail
          go_roundg (L2.length - (k + 1))
          case measure => omega
          case rel => exact ⟨k + 1, by go_num, by rw [HCU.out.1], by omega, rfl, K4, Lib.hid (by rw [HCU.out.2]; exact HV4.out)⟩
        | false =>
          have HC18 := Lib.hid (show ∀ w', Keep [] wr w' → w'.cell? ⟨u, 0, none⟩ = some (.slice (some ⟨ga, 0, none⟩) L2.length _) ∧ w'.rangeAt n 0 XC ∧ w'.rangeAt ga (k * 38) YC from fun w' k' =>
            ⟨(HD.out w' (HK.out.trans k')).blk.get rfl, HBX.out w' (HK.out.trans k'), HYR0.out w' (HK.out.trans k')⟩)
          go_upto_region 18 with fail
          refine wp_region_held_drew (S := fun w' => Keep [] wr w') (by kernel_rfl) ((Keep.refl [] wr).drew) (fun hHeld => ?_); refine gW 0 ?_; (try simp only [sq]); refine gW 1 ?_; (try simp only [sq]); refine gW 2 ?_; (try simp only [sq]); refine gZ 3 n 0 (XC) (fun w' hSw => (HC18.out w' hSw).2.1) (by rw [HXC.out.2]; kernel_rfl) ?_; (try simp only [sq]); refine gW 4 ?_; (try simp only [sq]); refine gW 5 ?_; (try simp only [sq]); refine gW 6 ?_; (try simp only [sq]); refine gV 7 (v := ?_) ?_ ?_; rotate_left
          · (intro w' hSw; obtain ⟨d0, _, _⟩ := HC18.out w' hSw; go_simp) <;> (with_reducible rfl)
          (try simp only [sq]); refine gW 8 ?_; (try simp only [sq]); refine gW 9 ?_; (try simp only [sq]); refine gZ 10 ga (k * 38) (YC) (fun w' hSw => (HC18.out w' hSw).2.2) (by rw [HYC.out.2]; kernel_rfl) ?_; (try simp only [sq]); refine gR 11 rfl (fun K hK => ?_); go_simp; refine (HAH.out _).mono ?_; rintro e wq ⟨rfl, kq⟩; have kk := hHeld.trans kq; clear kq; (try go_simp); refine hK.out _ _ (kk) (fun hHeld => ?_); clear hK K; (try simp only [sq]); refine gW 12 ?_; (try simp only [sq]); refine wpAnyH_done (by kernel_rfl) ?_ _
          cases ah with
          | true =>
            have HCU := Lib.hid (show doneT x (L2.take (k + 1)) = true ∧ curT x (L2.take (k + 1)) = (curT x (L2.take k) ++ [x]) ++ [y] from ⟨by rw [hdn]; rfl, by rw [hcu]; rfl⟩); clear hdn hcu; have HKX := Lib.hid hHeld; have HKW := Lib.hid (HK.out.trans HKX.out); have HVW := Lib.hid (HV.out.keep0 HKX.out); have d0 := (HD.out _ HKW.out).blk.get (k := 0) rfl; clear hHeld; have HNX := Lib.hid (HBX.out _ HKW.out)
            go_upto_region 21 with (first | ((with_reducible refine gL 95 3 ?_); refine gl n 0 XC HNX.out (by rw [HXC.out.2]; kernel_rfl) ?_; try simp only [sq]) | (refine wpList_buildOne rfl 28 51 (.tmp 95) rfl Hs (by omega) (by omega) Tryz.underlying28 XC HXC.out.2 (by rfl) ?_) | (at_builtin; go_must (refine wpList_append3 rfl _ _ 28 rfl is _ 104 Tryz.underlying28 Hs (by rfl) (by decide) Tik.cells_length Tik.one wq (HKW.out.size) (by rfl) HVW.out x _ HXC.out.1.symm _ (by rfl) (by show _ + 1 ≤ 9223372036854775807; omega) (by omega) ?_); intro vm wm hown' hgr hat) | fail)
            have KM := Lib.hid (show Keep [] wc wm from HKW.out.trans' (Keep.grown' hgr (S := u10.ownBlock.toList) (fun k hk _ => by rw [hk]; simp)) (fun x hx hl => by simp at hx; have := (HV.out.lt x hx).1; omega)); have HVM := Lib.hid hown'; clear hown' hgr hat d0; have d0 := (HD.out wm KM.out).blk.get (k := 0) rfl; have HYR := Lib.hid (HYR0.out wm KM.out)
            go_wp2_with (first | ((with_reducible refine gL 105 104 ?_); refine gl ga (k * 38) YC HYR.out (by rw [HYC.out.2]; kernel_rfl) ?_; try simp only [sq]) | (refine wpList_buildOne rfl 28 51 (.tmp 105) rfl Hs (by omega) (by omega) Tryz.underlying28 YC HYC.out.2 (by rfl) ?_) | (at_builtin; go_must (refine wpList_append3 rfl _ _ 28 rfl is _ 104 Tryz.underlying28 Hs (by rfl) (by decide) Tik.cells_length Tik.one wm (KM.out.size) (by rfl) HVM.out y _ HYC.out.1.symm _ (by rfl) (by show _ + 1 ≤ 9223372036854775807; simp only [List.length_append, List.length_cons, List.length_nil]; omega) (by simp only [List.length_append, List.length_cons, List.length_nil]; omega) ?_); intro v' w6 hown' hgr hat) | fail); have K4 := Lib.hid (show Keep [] wc w6 from KM.out.trans' (Keep.grown' hgr (S := vm.ownBlock.toList) (fun k hk _ => by rw [hk]; simp)) (fun x hx hl => by simp at hx; have := (HVM.out.lt x hx).1; omega)); have HV4 := Lib.hid hown'; clear hown' hgr hat; go_wp2_with fail
            go_roundg (L2.length - (k + 1))
            case measure => omega
            case rel => exact ⟨k + 1, by go_num, by rw [HCU.out.1], by omega, rfl, K4, Lib.hid (by rw [HCU.out.2]; exact HV4.out)⟩
          | false =>
            have HCU := Lib.hid (show doneT x (L2.take (k + 1)) = false ∧ curT x (L2.take (k + 1)) = curT x (L2.take k) ++ [y] from ⟨by rw [hdn]; rfl, by rw [hcu]; rfl⟩); clear hdn hcu; have HKX := Lib.hid hHeld; have HKW := Lib.hid (HK.out.trans HKX.out); have HVW := Lib.hid (HV.out.keep0 HKX.out); have d0 := (HD.out _ HKW.out).blk.get (k := 0) rfl; clear hHeld; have HYR := Lib.hid (HYR0.out _ HKW.out)
            go_wp2_with (first | ((with_reducible refine gL 105 104 ?_); refine gl ga (k * 38) YC HYR.out (by rw [HYC.out.2]; kernel_rfl) ?_; try simp only [sq]) | (refine wpList_buildOne rfl 28 51 (.tmp 105) rfl Hs (by omega) (by omega) Tryz.underlying28 YC HYC.out.2 (by rfl) ?_) | (at_builtin; go_must (refine wpList_append3 rfl _ _ 28 rfl is _ 104 Tryz.underlying28 Hs (by rfl) (by decide) Tik.cells_length Tik.one wq (HKW.out.size) (by rfl) HVW.out y _ HYC.out.1.symm _ (by rfl) (by show _ + 1 ≤ 9223372036854775807; omega) (by omega) ?_); intro v' w6 hown' hgr hat) | fail); have K4 := Lib.hid (show Keep [] wc w6 from HKW.out.trans' (Keep.grown' hgr (S := u10.ownBlock.toList) (fun k hk _ => by rw [hk]; simp)) (fun x hx hl => by simp at hx; have := (HV.out.lt x hx).1; omega)); have HV4 := Lib.hid hown'; clear hown' hgr hat; go_wp2_with fail
            go_roundg (L2.length - (k + 1))
            case measure => omega
            case rel => exact ⟨k + 1, by go_num, by rw [HCU.out.1], by omega, rfl, K4, Lib.hid (by rw [HCU.out.2]; exact HV4.out)⟩
      · have hke : k = L2.length := by omega
        have f1 : decide ((k : Int) < (L2.length : Nat)) = false := decide_eq_false (by omega); subst hke; rw [List.take_length] at HV ⊢; obtain ⟨dn, hdn⟩ : ∃ z, doneT x L2 = z := ⟨_, rfl⟩
        have hca := cur_all x L2; rw [hdn] at hca ⊢
        have hln : (curT x L2).length ≤ 1000 := by
          unfold curT
          split
          · rw [insT_length]; omega
          · omega
        have HCA := Lib.hid hca; clear hca; obtain ⟨GC, hgl, hgo, hbg⟩ := H5.out.bg; have HBG := Lib.hid (And.intro hgl (And.intro hgo hbg)); clear hgl hgo hbg
        cases dn with
        | true =>
          obtain ⟨a9, c9, rfl, _⟩ := HV.out.shape
          have HF := Lib.hid (show DoneT rv budget wc (wr.setCell ⟨u, 0, none⟩ (.slice a9 (curT x L2).length c9)) u (.slice a2 L2.length c2) (insT x L2) from by
            have := Dt.laid (HD.out wr HK.out) HK.out H5.out.dt.blk.lt HV.out; rwa [show curT x L2 = insT x L2 from HCA.out] at this ⊢)
          have f0 := (HD.out wr HK.out).blk.frozen 0; have HK9 := Lib.hid HK.out; clear hdn HV; obtain ⟨w9, hw9⟩ : ∃ z, wr.setCell ⟨u, 0, none⟩ (.slice a9 (curT x L2).length c9) = z := ⟨_, rfl⟩
          have HGR := Lib.hid (show w9.rangeAt n6 0 GC ∧ World.there w9 (n + 1) 0 38 from by
            rw [← hw9]; have hne := H5.out.ne; have hk : Keep [u] wc (wr.setCell ⟨u, 0, none⟩ (.slice a9 (curT x L2).length c9)) := (HK9.out.mono (S' := [u]) (by simp)).setCell _ _ (fun _ => by simp); exact ⟨(hk.blk HBG.out.2.2 (by simp; omega)).rng, (hk.blk H5.out.bz (by simp; omega)).thr 0 38 (by rw [Tik.cells_length]; omega)⟩)
          have HFF := Lib.hid (show DoneT rv budget wc w9 u (.slice a2 L2.length c2) (insT x L2) from by rw [← hw9]; exact HF.out); have HW9 := Lib.hid hw9; clear HF hw9
          go_upto_region 25 with fail
          rw [HW9.out]; clear HW9
          go_wp2_with (first | ((with_reducible refine gL 118 6 ?_); refine gl n6 0 GC HGR.out.1 (by rw [HBG.out.1]; kernel_rfl) ?_; try simp only [sq]) | ((with_reducible refine gS 4 118 ?_); refine wpList_store_mid rfl 51 (.tmp 4) (.tmp 118) rfl (n + 1) 0 GC.toArray (by rfl) (by rfl) (by simp only [List.size_toArray, HBG.out.1]; exact HGR.out.2) (by simp only [List.size_toArray, HBG.out.1]; kernel_rfl) (all_oneCell_toArray HBG.out.2.1) ?_) | fail); have hload := run_loadVar_mid (P := Tryz.prog) (w9.setCells (n + 1) 0 GC) (n + 1) 0 51 GC _ (World.rangeAt_setCells_same w9 (n + 1) 0 GC (by rw [HBG.out.1]; exact HGR.out.2)) Tryz.underlying51 rfl (by rw [HBG.out.1]; kernel_rfl); refine bodyPost_ret (v := .tuple #[.agg GC.toArray, .bool fb]) (by simp [Act.put, results, Tryz.results61, asAddr, Result.andThen, hload]) rfl ⟨⟨_, rfl⟩, ?_⟩; rw [HPT.out]; exact H5.out.res HFF.out GC
        | false =>
          go_upto_region 24 with (first | ((with_reducible refine gL 111 3 ?_); refine gl n 0 XC (HBX.out wr HK.out) (by rw [HXC.out.2]; kernel_rfl) ?_; try simp only [sq]) | (refine wpList_buildOne rfl 28 51 (.tmp 111) rfl Hs (by omega) (by omega) Tryz.underlying28 XC HXC.out.2 (by rfl) ?_) | (at_builtin; go_must (refine wpList_append3 rfl _ _ 28 rfl is _ 104 Tryz.underlying28 Hs (by rfl) (by decide) Tik.cells_length Tik.one wr (HK.out.size) (by rfl) HV.out x _ HXC.out.1.symm _ (by rfl) (by show _ + 1 ≤ 9223372036854775807; omega) (by omega) ?_); intro vm w6 hown' hgr hat) | fail)
          have K4 := Lib.hid (show Keep [] wc w6 from HK.out.trans' (Keep.grown' hgr (S := u10.ownBlock.toList) (fun k hk _ => by rw [hk]; simp)) (fun x hx hl => by simp at hx; have := (HV.out.lt x hx).1; omega)); obtain ⟨a9, c9, rfl, _⟩ := hown'.shape; obtain ⟨l9, hl9⟩ : ∃ q, (curT x L2 ++ [x]).length = q := ⟨_, rfl⟩
          rw [hl9] at hown' ⊢
          have HF := Lib.hid (show DoneT rv budget wc (w6.setCell ⟨u, 0, none⟩ (.slice a9 l9 c9)) u (.slice a2 L2.length c2) (insT x L2) from by
            have := Dt.laid (HD.out w6 K4.out) K4.out H5.out.dt.blk.lt hown'; rwa [show curT x L2 ++ [x] = insT x L2 from HCA.out] at this)
          clear d0; have d0 := (HD.out w6 K4.out).blk.get (k := 0) rfl; have f0 := (HD.out w6 K4.out).blk.frozen 0; clear hown' hgr hat hdn HV hl9; obtain ⟨w9, hw9⟩ : ∃ z, w6.setCell ⟨u, 0, none⟩ (.slice a9 l9 c9) = z := ⟨_, rfl⟩
          have HGR := Lib.hid (show w9.rangeAt n6 0 GC ∧ World.there w9 (n + 1) 0 38 from by
            rw [← hw9]; have hne := H5.out.ne; have hk : Keep [u] wc (w6.setCell ⟨u, 0, none⟩ (.slice a9 l9 c9)) := (K4.out.mono (S' := [u]) (by simp)).setCell _ _ (fun _ => by simp); exact ⟨(hk.blk HBG.out.2.2 (by simp; omega)).rng, (hk.blk H5.out.bz (by simp; omega)).thr 0 38 (by rw [Tik.cells_length]; omega)⟩)
          have HFF := Lib.hid (show DoneT rv budget wc w9 u (.slice a2 L2.length c2) (insT x L2) from by rw [← hw9]; exact HF.out); have HW9 := Lib.hid hw9; clear HF hw9
          go_upto_region 25 with fail
          rw [HW9.out]; clear HW9
          go_wp2_with (first | ((with_reducible refine gL 118 6 ?_); refine gl n6 0 GC HGR.out.1 (by rw [HBG.out.1]; kernel_rfl) ?_; try simp only [sq]) | ((with_reducible refine gS 4 118 ?_); refine wpList_store_mid rfl 51 (.tmp 4) (.tmp 118) rfl (n + 1) 0 GC.toArray (by rfl) (by rfl) (by simp only [List.size_toArray, HBG.out.1]; exact HGR.out.2) (by simp only [List.size_toArray, HBG.out.1]; kernel_rfl) (all_oneCell_toArray HBG.out.2.1) ?_) | fail); have hload := run_loadVar_mid (P := Tryz.prog) (w9.setCells (n + 1) 0 GC) (n + 1) 0 51 GC _ (World.rangeAt_setCells_same w9 (n + 1) 0 GC (by rw [HBG.out.1]; exact HGR.out.2)) Tryz.underlying51 rfl (by rw [HBG.out.1]; kernel_rfl); refine bodyPost_ret (v := .tuple #[.agg GC.toArray, .bool fb]) (by simp [Act.put, results, Tryz.results61, asAddr, Result.andThen, hload]) rfl ⟨⟨_, rfl⟩, ?_⟩; rw [HPT.out]; exact H5.out.res HFF.out GC
end
end Go.Proofs.YtkghgaopcgcheaaGreatDoor
namespace Go.Proofs.YtkghgaopcgcheaaGreatDoor
open Go.RowKit Go.Maps
theorem ref20_Same (va vb : Value) (L : List Tik) (w : World) (ha : Own Tik.cells 38 0 51 w va L) (hb : Own Tik.cells 38 0 51 w vb L) (hg : ∀ j ∈ L, tikIn j) :
    Calls Tryz.prog 8 #[va, vb] w fun e w' => e = .returned (.bool true) ∧ Keep [] w w' := by
  obtain ⟨aa, ca, rfl, hal⟩ := ha.shape; obtain ⟨ab, cb, rfl, hbl⟩ := hb.shape; have hal' : L.length ≤ 9223372036854775807 := hal; have HA := Lib.hid (fun w' (k : Keep [] w w') => ha.keep0 k); have HB := Lib.hid (fun w' (k : Keep [] w w') => hb.keep0 k); have HG := Lib.hid hg; have q1 : (L.length == L.length) = true := by simp
  clear ha hb hal hbl hg; go_enter Tryz.func8, Tryz.ntmps8; go_wp2_with fail
  go_loopg [5] L.length (fun g i wr => ∃ k : Nat, i = .int .i64 k ∧ k ≤ L.length ∧ g = L.length - k ∧ Hid (Keep [] w wr))
  case atStart => exact ⟨0, rfl, Nat.zero_le _, by omega, Lib.hid (Keep.refl _ _)⟩
  case round =>
    obtain ⟨k, rfl, hk, hgk, HK⟩ := hrel; by_cases hlt : k < L.length
    · obtain ⟨x, hx⟩ : ∃ x, L[k]? = some x := ⟨_, List.getElem?_eq_getElem hlt⟩
      obtain ⟨ga, c1, e1, r1⟩ := own_elem (HA.out wr HK.out) hx; obtain ⟨gb, c2, e2, r2⟩ := own_elem (HB.out wr HK.out) hx; cases e1; cases e2; have h0 : (0 : Int) ≤ (k : Int) := by omega
      have h1 : (k : Int) < (L.length : Int) := by omega
      have hgx := HG.out x (List.mem_of_getElem? hx); have hq := fun w' => eqTik x x hgx hgx w'
      rw [decide_eq_true rfl] at hq; have HL := Lib.hid (show (Tryz.prog.info? 51).map (·.size) = some x.cells.length by rw [Tik.cells_length]; kernel_rfl)
      have R1 : Hid (∀ w', (∃ y, w' = wr.drewN y) → w'.rangeAt ga (k * 38) x.cells) := fun w' hw' => by
        obtain ⟨y, rfl⟩ := hw'; exact r1
      have R2 : Hid (∀ w', (∃ y, w' = wr.drewN y) → w'.rangeAt gb (k * 38) x.cells) := fun w' hw' => by
        obtain ⟨y, rfl⟩ := hw'; exact r2
      generalize x.cells = xc at *; clear hx r1 r2 hgx; go_wp2_with fail; refine wp_region_quiet_lit (by kernel_rfl) (by kernel_rfl) ?_
      repeat (go_big_quiet_step (fail))
      refine wpQuiet_load rfl 51 (.tmp 19) rfl ga (k * 38) (by simp [Act.eval, Addr.add]) xc _ R1.out Tryz.underlying51 rfl HL.out ?_; simp only [sq]
      repeat (go_big_quiet_step (fail))
      refine wpQuiet_load rfl 51 (.tmp 23) rfl gb (k * 38) (by simp [Act.eval, Addr.add]) xc _ R2.out Tryz.underlying51 rfl HL.out ?_; simp only [sq]
      repeat (go_big_quiet_step (fail))
      refine wpQuiet_nil ?_; intro _ hw'; obtain ⟨nq, hw''⟩ := hw'; subst hw''; go_wp2_with fail
      go_roundg (L.length - (k + 1))
      case measure => omega
      case rel => exact ⟨k + 1, rfl, by omega, rfl, Lib.hid (HK.out.drewN nq)⟩
    · have hlt2 : ¬ (k : Int) < (L.length : Int) := by omega
      clear hlt; go_wp2_with fail; go_ret; exact ⟨rfl, HK.out⟩
end Go.Proofs.YtkghgaopcgcheaaGreatDoor
namespace Go.Proofs.YtkghgaopcgcheaaGreatDoor
open Go.RowKit
def nbS (x : Slp) : Bool := decide (1 ≤ x.repo.length ∧ x.repo.length ≤ 128 ∧ 1 ≤ x.tag.length ∧ x.tag.length ≤ 128)
def b5S (f : Fds) (x : Slp) : Bool := (f.names != nbS x) || (!f.names && (!decide (x.repo = []) || !decide (x.tag = [])))
def b7S (f : Fds) (x : Slp) : Bool := ((!f.digest && !decide (x.dig = dig00)) || (!f.thing && (!decide (x.typ = []) || !decide (x.size = 0)))) || (!f.tick && !decide (x.tick = 0))
def r9S (x : Slp) : Bool := decide (x.typ.length ≤ 100 ∧ 0 ≤ x.size ∧ x.size ≤ 1048576 ∧ 0 ≤ x.tick ∧ x.tick ≤ 1099511627776)
theorem only_dec (x : Slp) (f : Fds) : decide (x = onlyS x f) = ((f.names || (decide (x.repo = []) && decide (x.tag = []))) && ((f.digest || decide (x.dig = dig00)) && ((f.thing || (decide (x.typ = []) && decide (x.size = 0))) && (f.tick || decide (x.tick = 0))))) := by
  rw [Bool.eq_iff_iff]; obtain ⟨a1, a2, a3, a4, a5, a6, a7⟩ := x; obtain ⟨f1, f2, f3, f4⟩ := f; cases f1 <;> cases f2 <;> cases f3 <;> cases f4 <;> simp [onlyS, and_assoc]
theorem good_alg : ∀ (n d t k er et ed ey es ek nb r9 : Bool), (er = true → nb = false) →
    (((n || (er && et)) && ((d || ed) && ((t || (ey && es)) && (k || ek)))) && (!n || nb) && r9) =
      (!((n != nb) || (!n && (!er || !et))) && !(((!d && !ed) || (!t && (!ey || !es))) || (!k && !ek)) && r9) := by decide
theorem good_is (x : Slp) : goodS x = (isKind x.kind && (!(b5S (fdsOf x.kind) x) && !(b7S (fdsOf x.kind) x) && r9S x)) := by
  have hnb : decide (x.repo = []) = true → nbS x = false := by
    intro h; have := of_decide_eq_true h; unfold nbS; rw [this]; simp
  have h1 : (decide (1 ≤ x.repo.length ∧ x.repo.length ≤ 128) && decide (1 ≤ x.tag.length ∧ x.tag.length ≤ 128)) = nbS x := by
    unfold nbS; rw [Bool.eq_iff_iff]; simp [and_assoc]
  have h2 : (decide (x.typ.length ≤ 100) && decide (0 ≤ x.size ∧ x.size ≤ 1048576) && decide (0 ≤ x.tick ∧ x.tick ≤ 1099511627776)) = r9S x := by
    unfold r9S; rw [Bool.eq_iff_iff]; simp [and_assoc]
  unfold goodS b5S b7S; rw [only_dec, h1]; have := good_alg (fdsOf x.kind).names (fdsOf x.kind).digest (fdsOf x.kind).thing (fdsOf x.kind).tick _ (decide (x.tag = [])) (decide (x.dig = dig00)) (decide (x.typ = [])) (decide (x.size = 0)) (decide (x.tick = 0)) (nbS x) (r9S x) hnb; rw [← this, ← h2]; simp only [Bool.and_assoc]
theorem slp_dig (x : Slp) (j : Nat) (v : Value) (hv : (digC x.dig)[j]? = some v) : x.cells[3 + j]? = some v := by
  unfold Slp.cells; rw [List.getElem?_append_right (by simp), show ([Value.int .i64 x.kind, .string (S x.repo), .string (S x.tag)] : List Value).length = 3 from rfl, Nat.add_sub_cancel_left, List.getElem?_append_left (List.getElem?_eq_some_iff.1 hv).1]; exact hv
theorem ref08_Good (x : Slp) (XC : List Value) (hx : x.cells = XC) (w : World) (hi : slipIn x) : Calls Tryz.prog 76 #[.agg XC.toArray] w fun e w' => e = .returned (.bool (goodS x)) ∧ Keep [] w w' := by
  have HG := Lib.hid (good_is x); obtain ⟨GD, hGD⟩ : ∃ z, goodS x = z := ⟨_, rfl⟩
  rw [hGD] at HG ⊢; clear hGD; obtain ⟨n, hn⟩ : ∃ n, w.heap.size = n := ⟨_, rfl⟩
  have k1 := (Keep.refl [] w).alloc (.cells XC.toArray 27); have b1 := Blk.new w XC 27; rw [hn] at b1; have hq := fun w' => eqDig x.dig dig00 w'
  obtain ⟨DC, hDC⟩ : ∃ z, digC x.dig = z := ⟨_, rfl⟩
  have HDL := Lib.hid (show DC.length = 32 by rw [← hDC]; exact digC_length _); rw [hDC, show (digC dig00).toArray = #[Value.int IntKind.u8 0, Value.int IntKind.u8 0, Value.int IntKind.u8 0, Value.int IntKind.u8 0, Value.int IntKind.u8 0, Value.int IntKind.u8 0, Value.int IntKind.u8 0, Value.int IntKind.u8 0, Value.int IntKind.u8 0, Value.int IntKind.u8 0, Value.int IntKind.u8 0, Value.int IntKind.u8 0, Value.int IntKind.u8 0, Value.int IntKind.u8 0, Value.int IntKind.u8 0, Value.int IntKind.u8 0, Value.int IntKind.u8 0, Value.int IntKind.u8 0, Value.int IntKind.u8 0, Value.int IntKind.u8 0, Value.int IntKind.u8 0, Value.int IntKind.u8 0, Value.int IntKind.u8 0, Value.int IntKind.u8 0, Value.int IntKind.u8 0, Value.int IntKind.u8 0, Value.int IntKind.u8 0, Value.int IntKind.u8 0, Value.int IntKind.u8 0, Value.int IntKind.u8 0, Value.int IntKind.u8 0, Value.int IntKind.u8 0] from rfl] at hq; go_enter Tryz.func76, Tryz.ntmps76
  go_upto_region 1 with fail
  (try simp only [hn]); generalize w.alloc (.cells XC.toArray 27) = w1 at k1 b1 ⊢
  have HC := Lib.hid (show ∀ w', Keep [] w1 w' → w'.cell? ⟨n, 0, none⟩ = some (.int .i64 x.kind) ∧ w'.cell? ⟨n, 1, none⟩ = some (.string (S x.repo)) ∧ w'.cell? ⟨n, 2, none⟩ = some (.string (S x.tag)) ∧ w'.cell? ⟨n, 35, none⟩ = some (.string (S x.typ)) ∧ w'.cell? ⟨n, 36, none⟩ = some (.int .i64 x.size) ∧ w'.cell? ⟨n, 37, none⟩ = some (.int .i64 x.tick) ∧ w'.rangeAt n 3 DC from fun w' k => by
    have b := k.blk b1 (by simp); refine ⟨b.get (by rw [← hx]; exact x.at0), b.get (by rw [← hx]; exact x.at1), b.get (by rw [← hx]; exact x.at2), b.get (by rw [← hx]; exact x.at35), b.get (by rw [← hx]; exact x.at36), b.get (by rw [← hx]; exact x.at37), fun j v hv => b.get ?_⟩; rw [← hx]; rw [← hDC] at hv; exact slp_dig x j v hv)
  have K1 := Lib.hid k1; obtain ⟨c0, c1, c2, c35, c36, c37, _⟩ := HC.out w1 (Keep.refl _ _); have HI := Lib.hid hi; clear hx hDC k1 b1 hn hi; by_cases hk : 1 ≤ x.kind ∧ x.kind ≤ 6
  case neg =>
    have HV := Lib.hid (show GD = false by rw [HG.out, show isKind x.kind = false by simp [isKind]; omega]; rfl); by_cases h1 : x.kind < 1
    · have q1 : decide (x.kind < 1) = true := decide_eq_true h1; clear h1 hk HG; go_wp2_with fail; go_ret; exact ⟨by rw [HV.out]; rfl, K1.out⟩
    · have q1 : decide (x.kind < 1) = false := decide_eq_false h1; have q2 : decide (x.kind > 6) = true := decide_eq_true (by omega); clear h1 hk HG; go_wp2_with fail; go_ret; exact ⟨by rw [HV.out]; rfl, K1.out⟩
  case pos =>
  have q1 : decide (x.kind < 1) = false := decide_eq_false (by omega); have q2 : decide (x.kind > 6) = false := decide_eq_false (by omega); have hkk : isKind x.kind = true := by simp [isKind]; omega
  have HH := Lib.hid (fun w' => ref08_has x.kind w' hk.1 hk.2); have hfv := fds_five x.kind hkk; rw [hkk, Bool.true_and] at HG; obtain ⟨f, hf⟩ : ∃ f, fdsOf x.kind = f := ⟨_, rfl⟩
  rw [hf] at HH HG hfv; have HFV := Lib.hid hfv; obtain ⟨FC, hFC⟩ : ∃ l, f.cells = l := ⟨_, rfl⟩
  have HFC := Lib.hid (show f.cells = FC ∧ FC.length = 4 ∧ ∀ v ∈ FC, v.oneCell' = true by rw [← hFC]; exact ⟨rfl, rfl, by intro v hv; simp [Fds.cells] at hv; rcases hv with rfl | rfl | rfl | rfl <;> rfl⟩); rw [hFC] at HH; clear hk hkk hfv hf hFC; go_wp2_with fail; refine (HH.out w1).mono ?_; rintro e w2 ⟨rfl, k2⟩; have K2 := Lib.hid k2; clear k2 c0 c1 c2 c35 c36 c37 q1 q2
  go_upto_region 4 with (first | ((with_reducible refine gS 3 15 ?_); refine wpList_store_new rfl 197 (.tmp 3) (.tmp 15) rfl _ FC (by rfl) (by rfl) (by rw [HFC.out.2.1]; kernel_rfl) (by rw [HFC.out.2.1]; kernel_rfl) HFC.out.2.2 ?_) | fail)
  obtain ⟨m, hm⟩ : ∃ m, w2.heap.size = m := ⟨_, rfl⟩
  have b3 := Blk.new w2 FC 197; have k3 := K2.out.alloc (.cells FC.toArray 197); rw [hm] at b3; (try rw [hm]); (try simp only [Act.put]); generalize w2.alloc (.cells FC.toArray 197) = w3 at k3 b3 ⊢; have K3 := Lib.hid k3; have B3 := Lib.hid b3; clear k3 b3 hm; obtain ⟨c0, c1, c2, c35, c36, c37, hrg⟩ := HC.out w3 K3.out; have HRG := Lib.hid hrg; clear hrg c0; have s1 := S_size x.repo; have s2 := S_size x.tag; have s3 := S_size x.typ; have l1 : x.repo.length ≤ 9223372036854775807 := HI.out.2.1; have l2 : x.tag.length ≤ 9223372036854775807 := HI.out.2.2.1; have l3 : x.typ.length ≤ 9223372036854775807 := HI.out.2.2.2.1; have t1 : ((S x.repo).toList.isEmpty) = decide (x.repo = []) := by rw [S_toList]; cases x.repo <;> rfl
  have t2 : ((S x.tag).toList.isEmpty) = decide (x.tag = []) := by rw [S_toList]; cases x.tag <;> rfl
  have t3 : ((S x.typ).toList.isEmpty) = decide (x.typ = []) := by rw [S_toList]; cases x.typ <;> rfl
  obtain ⟨nb, hnb⟩ : ∃ z, nbS x = z := ⟨_, rfl⟩
  obtain ⟨er, her⟩ : ∃ z, decide (x.repo = []) = z := ⟨_, rfl⟩
  obtain ⟨et, het⟩ : ∃ z, decide (x.tag = []) = z := ⟨_, rfl⟩
  obtain ⟨ed, hed⟩ : ∃ z, decide (x.dig = dig00) = z := ⟨_, rfl⟩
  obtain ⟨ey, hey⟩ : ∃ z, decide (x.typ = []) = z := ⟨_, rfl⟩
  obtain ⟨es, hes⟩ : ∃ z, decide (x.size = 0) = z := ⟨_, rfl⟩
  obtain ⟨ek, hek⟩ : ∃ z, decide (x.tick = 0) = z := ⟨_, rfl⟩
  obtain ⟨r9, hr9⟩ : ∃ z, r9S x = z := ⟨_, rfl⟩
  rw [her] at t1; rw [het] at t2; rw [hey] at t3; rw [hed] at hq
  have HG2 := Lib.hid (show GD = (!((f.names != nb) || (!f.names && (!er || !et))) && !(((!f.digest && !ed) || (!f.thing && (!ey || !es))) || (!f.tick && !ek)) && r9) by
    rw [HG.out]; unfold b5S b7S; rw [hnb, her, het, hed, hey, hes, hek, hr9])
  have HNB := Lib.hid (show nb = decide (1 ≤ x.repo.length ∧ x.repo.length ≤ 128 ∧ 1 ≤ x.tag.length ∧ x.tag.length ≤ 128) from hnb.symm); have HR9 := Lib.hid (show r9 = decide (x.typ.length ≤ 100 ∧ 0 ≤ x.size ∧ x.size ≤ 1048576 ∧ 0 ≤ x.tick ∧ x.tick ≤ 1099511627776) from hr9.symm); have HQ := Lib.hid (And.intro hq (And.intro hes hek)); obtain ⟨rl, hrl⟩ : ∃ z, x.repo.length = z := ⟨_, rfl⟩
  obtain ⟨tl, htl⟩ : ∃ z, x.tag.length = z := ⟨_, rfl⟩
  obtain ⟨yl, hyl⟩ : ∃ z, x.typ.length = z := ⟨_, rfl⟩
  obtain ⟨sz, hsz⟩ : ∃ z, x.size = z := ⟨_, rfl⟩
  obtain ⟨tk, htk⟩ : ∃ z, x.tick = z := ⟨_, rfl⟩
  rw [hrl] at s1 l1 HNB; rw [htl] at s2 l2 HNB; rw [hyl] at s3 l3 HR9; rw [hsz] at c36 HR9 HQ; rw [htk] at c37 HR9 HQ; clear hnb her het hed hey hes hek hr9 hrl htl hyl hsz htk HG hq
  go_cut [4] (fun v wx => v = .bool nb ∧ w3 = wx)
  case first =>
    clear t1 t2 t3; go_wp2_with fail
    all_goals
      go_meet; refine ⟨congrArg Value.bool ?_, rfl⟩; rw [HNB.out]
      first
        | exact (decide_eq_true (by omega)).symm
        | exact (decide_eq_false (by omega)).symm
        | exact decide_eq_decide.2 (by omega)
  case rest =>
  obtain ⟨rfl, rfl⟩ := hcut; have d0 := B3.out.get (k := 0) (v := .bool f.names) (by rw [← HFC.out.1]; rfl); have d1 := B3.out.get (k := 1) (v := .bool f.digest) (by rw [← HFC.out.1]; rfl); have d2 := B3.out.get (k := 2) (v := .bool f.thing) (by rw [← HFC.out.1]; rfl); have d3 := B3.out.get (k := 3) (v := .bool f.tick) (by rw [← HFC.out.1]; rfl); obtain ⟨b5, hb5⟩ : ∃ z, ((f.names != nb) || (!f.names && (!er || !et))) = z := ⟨_, rfl⟩
  obtain ⟨b7, hb7⟩ : ∃ z, (((!f.digest && !ed) || (!f.thing && (!ey || !es))) || (!f.tick && !ek)) = z := ⟨_, rfl⟩
  rw [hb5, hb7] at HG2
  go_upto_region 5 with fail
  go_cut [56] (fun v wx => v = .bool b5 ∧ w3 = wx)
  case first =>
    obtain ⟨nm, hnm⟩ : ∃ z, f.names = z := ⟨_, rfl⟩
    rw [hnm] at d0 hb5; have HB5 := Lib.hid hb5; clear hb5 hb7 hnm t3 d1 d2 d3; cases nm <;> cases nb <;> cases er <;> cases et
    all_goals
      go_wp2_with fail; go_meet; exact ⟨congrArg Value.bool HB5.out, rfl⟩
  case rest =>
  obtain ⟨rfl, rfl⟩ := hcut; clear t1 t2 hb5 d0
  cases b5 with
  | true =>
    have HV := Lib.hid (show GD = false by rw [HG2.out]; rfl); go_wp2_with fail; go_ret; exact ⟨by rw [HV.out]; rfl, K1.out.trans K3.out⟩
  | false =>
  rw [Bool.not_false, Bool.true_and] at HG2; have HD := Lib.hid (And.intro d1 (And.intro d2 d3)); have HB7 := Lib.hid hb7; clear d1 d2 d3 hb7
  go_upto_region 7 with fail
  go_cut [90] (fun v wx => v = .bool b7 ∧ w3 = wx)
  case first =>
    rcases HFV.out with hh | hh | hh | hh | hh
    all_goals
      have hb := HB7.out; obtain ⟨d1, d2, d3⟩ := HD.out; rw [hh] at hb d1 d2 d3; obtain ⟨q5, q6, q7⟩ := HQ.out; have n6 : (sz != 0) = !es := by rw [← q6]; by_cases h : sz = 0 <;> simp [h]
      have n7 : (tk != 0) = !ek := by rw [← q7]; by_cases h : tk = 0 <;> simp [h]
      simp only at hb d1 d2 d3; have HB := Lib.hid hb; clear hb hh; cases ed <;> cases ey <;> cases es <;> cases ek
      all_goals
        go_wp2_with (first
          | (with_reducible (show wpList _ _ _ ((⟨some 62, .load _ (.tmp 61), _, _, _, some (3, true)⟩ : Oper) :: _) _ _)
             refine wpList_load_midG (by rfl) 25 (.tmp 61) rfl n 3 (by rfl) DC _ HRG.out Tryz.underlying25 rfl (by rw [HDL.out]; kernel_rfl) ?_)
          | fail)
        go_meet; exact ⟨congrArg Value.bool HB.out, rfl⟩
  case rest =>
  obtain ⟨rfl, rfl⟩ := hcut; clear t3
  cases b7 with
  | true =>
    have HV := Lib.hid (show GD = false by rw [HG2.out]; rfl); go_wp2_with fail; go_ret; exact ⟨by rw [HV.out]; rfl, K1.out.trans K3.out⟩
  | false =>
    have HV := Lib.hid (show GD = decide (yl ≤ 100 ∧ 0 ≤ sz ∧ sz ≤ 1048576 ∧ 0 ≤ tk ∧ tk ≤ 1099511627776) by rw [HG2.out, HR9.out]; rfl); go_wp2_with fail
    all_goals
      go_ret; refine ⟨?_, K1.out.trans K3.out⟩; rw [HV.out]; refine congrArg (fun z => Ending.returned (.bool z)) ?_
      first
        | exact (decide_eq_true (by omega)).symm
        | exact (decide_eq_false (by omega)).symm
        | exact decide_eq_decide.2 (by omega)
end Go.Proofs.YtkghgaopcgcheaaGreatDoor
