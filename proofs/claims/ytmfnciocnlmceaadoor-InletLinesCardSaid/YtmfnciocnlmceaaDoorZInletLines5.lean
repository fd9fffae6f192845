/- Parts of the proof of InletLines, in order. No conditions but those that each theorem states. -/
import Derived.Test.YtmfnciocnlmceaaDoorZInletLines4
/- Layer 13: the document's laid, Answer. No conditions but on lengths. -/
namespace Go.Proofs.YtmfnciocnlmceaaDoor
open Go.RowKit Go.Shelf

set_option maxRecDepth 100000 in
set_option maxHeartbeats 2000000 in
theorem ref_laid (st : List UInt8) (va : Value) (L : List Fld) (w : World) (ha : Sl Fld.cells 2 w va L) (hg : L.length ≤ 32 → ∀ x ∈ L, x.name.length + x.value.length ≤ 1048576) (hst : st.length ≤ 1048576) :
    Calls Tryd.prog 48 #[.string (S st), va] w fun e w' => e = .returned (fin (laidS st L) (laidE st L)) ∧ Keep [] w w' := by
  obtain ⟨aa, ca, rfl, hal⟩ := ha.shape
  have hal' : L.length ≤ 9223372036854775807 := hal
  by_cases h32 : 32 < L.length
  · have h := laid_many (st := st) h32
    have HX := Lib.hid h
    clear h ha hg
    go_enter Tryd.func48, Tryd.ntmps48
    go_wp2_with fail
    go_ret2
    exact ⟨by rw [HX.out.1, HX.out.2]; rfl, Keep.refl _ _⟩
  · have hst2 : S st ++ ⟨#[13, 10]⟩ = S (st ++ [13, 10]) := S_append st [13, 10]
    have hsz := S_size st
    have HG := Lib.hid (hg (by omega))
    have HA := Lib.hid ha
    clear ha hg hal
    go_enter Tryd.func48, Tryd.ntmps48
    go_wp2_with fail
    clear hst2
    go_loopg [6, 7] L.length (fun g si i wr => ∃ (k : Nat) (T : List UInt8), si = .string (S T) ∧ i = .int .i64 k ∧ k ≤ L.length ∧ g = L.length - k ∧ T.length ≤ 1048578 + k * 1048580 ∧ Hid (T = st ++ [13, 10] ++ bodyT (L.take k) ∧ (L.take k).all goodF = true) ∧ Hid (Keep [] w wr))
    case atStart => exact ⟨0, st ++ [13, 10], rfl, rfl, Nat.zero_le _, by omega, by simp; omega, Lib.hid ⟨by simp [bodyT], by simp⟩, Lib.hid (Keep.refl _ _)⟩
    case round =>
      obtain ⟨k, T, rfl, rfl, hk, hgk, hT, HE, HK⟩ := hrel
      have sT := S_size T
      by_cases hlt : k < L.length
      · obtain ⟨x, hx⟩ : ∃ x, L[k]? = some x := ⟨_, List.getElem?_eq_getElem hlt⟩
        have hxl := HG.out x (List.mem_of_getElem? hx)
        have har := HA.out.keep0 Fld.cells_length (by omega) HK.out
        obtain ⟨ba, oa, ca', hva, _, hca, hcell⟩ := har.cell hx
        cases hva
        have hc0 := hcell 0 (by omega)
        have hc1 := hcell 1 (by omega)
        simp only [Fld.cells, List.getElem?_cons_zero, List.getElem?_cons_succ, Nat.add_zero] at hc0 hc1
        have hca' : ca ≤ 9223372036854775807 := hca
        have hh0 : (0 : Int) ≤ (k : Int) := by omega
        have hh1 : (k : Int) < (L.length : Int) := by omega
        have hkw := IntWalk.i64_in ((k : Int) + 1) (by omega)
        have HT := Lib.hid (fun w1 => ref_IsToken x.name w1 (show x.name.length ≤ 9223372036854775807 by omega))
        have HTx := Lib.hid (fun w1 => ref_Text x.value w1 (show x.value.length ≤ 9223372036854775807 by omega))
        have HTr := Lib.hid (fun w1 => ref_Trim x.value w1 (show x.value.length ≤ 9223372036854775807 by omega))
        have HX := Lib.hid hx
        have hkA := (Keep.refl [] wr).alloc (.cells #[.string (S x.name), .string (S x.value)] 26)
        have hbA : Blk (wr.alloc (.cells #[.string (S x.name), .string (S x.value)] 26)) wr.heap.size 26 x.cells := Blk.newA wr _ _
        have hGd : goodF x = (isTok x.name && isTxt x.value && (trimW x.value == x.value)) := rfl
        have sn := S_size x.name
        have sv := S_size x.value
        have c1 := S_append T x.name
        have c2 : S (T ++ x.name) ++ (⟨#[58, 32]⟩ : ByteArray) = S (T ++ x.name ++ [58, 32]) := S_append _ [58, 32]
        have c3 := S_append (T ++ x.name ++ [58, 32]) x.value
        have c4 : S (T ++ x.name ++ [58, 32] ++ x.value) ++ (⟨#[13, 10]⟩ : ByteArray) = S (T ++ x.name ++ [58, 32] ++ x.value ++ [13, 10]) := S_append _ [13, 10]
        have l1 : (T ++ x.name).length = T.length + x.name.length := by simp
        have l2 : (T ++ x.name ++ [58, 32]).length = T.length + x.name.length + 2 := by simp; omega
        have l3 : (T ++ x.name ++ [58, 32] ++ x.value).length = T.length + x.name.length + x.value.length + 2 := by simp; omega
        have l4 : (T ++ x.name ++ [58, 32] ++ x.value ++ [13, 10]).length = T.length + x.name.length + x.value.length + 4 := by simp; omega
        have e4 : T ++ x.name ++ [58, 32] ++ x.value ++ [13, 10] = T ++ (printF x ++ [13, 10]) := by simp [printF]
        have HCat := Lib.hid (And.intro c1 (And.intro c2 (And.intro c3 c4)))
        have HLen := Lib.hid (And.intro l1 (And.intro l2 (And.intro l3 l4)))
        have HE4 := Lib.hid e4
        clear c1 c2 c3 c4 l1 l2 l3 l4 e4 hx hcell har hca
        go_upto_region 8 with fail
        generalize hwA : wr.alloc (.cells #[.string (S x.name), .string (S x.value)] 26) = wA at *
        try rw [hwA]
        generalize hnb : wr.heap.size = nb at *
        clear hwA hnb
        have hA0 : ∀ n, (ext wA n).cell? ⟨nb, 0, none⟩ = some (.string (S x.name)) := fun n => ((ext_keep _ n).blk hbA (by simp)).get rfl
        have hA1 : ∀ n, (ext wA n).cell? ⟨nb, 1, none⟩ = some (.string (S x.value)) := fun n => ((ext_keep _ n).blk hbA (by simp)).get rfl
        have HBA := Lib.hid hbA
        have HKA := Lib.hid (HK.out.trans hkA)
        clear hbA hkA hc0 hc1
        go_cut [41] (fun v wx => v = .bool (!goodF x) ∧ Hid (Keep [] wA wx))
        case first =>
          cases htk : isTok x.name with
          | false =>
            rw [htk] at HT hGd
            have HGd := Lib.hid hGd
            clear hGd htk
            refine wp_region_ext_lit (by kernel_rfl) (by kernel_rfl) ?_
            repeat (go_big_quiet_step ((go_at_call 66; exact Calls.quiet_ext_same (HT.out _))))
            refine wpQuiet_nil ?_
            intro _ hw'
            obtain ⟨nq, hw''⟩ := hw'
            subst hw''
            go_wp2_with fail
            go_meet
            exact ⟨by rw [HGd.out]; rfl, Lib.hid (ext_keep _ nq)⟩
          | true =>
            rw [htk] at HT hGd
            cases htx : isTxt x.value with
            | false =>
              rw [htx] at HTx hGd
              have HGd := Lib.hid hGd
              clear hGd htk htx
              refine wp_region_ext_lit (by kernel_rfl) (by kernel_rfl) ?_
              repeat (go_big_quiet_step (first | (go_at_call 66; exact Calls.quiet_ext_same (HT.out _)) | (go_at_call 76; exact Calls.quiet_ext_same (HTx.out _))))
              refine wpQuiet_nil ?_
              intro _ hw'
              obtain ⟨nq, hw''⟩ := hw'
              subst hw''
              go_wp2_with fail
              go_meet
              exact ⟨by rw [HGd.out]; rfl, Lib.hid (ext_keep _ nq)⟩
            | true =>
              rw [htx] at HTx hGd
              have t1 := S_toList (trimW x.value)
              have t2 := S_toList x.value
              have HGd := Lib.hid hGd
              clear hGd htk htx
              refine wp_region_ext_lit (by kernel_rfl) (by kernel_rfl) ?_
              repeat (go_big_quiet_step (first | (go_at_call 66; exact Calls.quiet_ext_same (HT.out _)) | (go_at_call 76; exact Calls.quiet_ext_same (HTx.out _)) | (go_at_call 77; exact Calls.quiet_ext_same (HTr.out _))))
              refine wpQuiet_nil ?_
              intro _ hw'
              obtain ⟨nq, hw''⟩ := hw'
              subst hw''
              go_wp2_with fail
              go_meet
              exact ⟨by rw [HGd.out]; rfl, Lib.hid (ext_keep _ nq)⟩
        case rest =>
          obtain ⟨rfl, HKx⟩ := hcut
          have hb2 := HKx.out.blk HBA.out (by simp)
          have d0 := hb2.get (k := 0) rfl
          have d1 := hb2.get (k := 1) rfl
          have HK2 := Lib.hid (HKA.out.trans HKx.out)
          clear hb2 hGd HT HTx HTr hA0 hA1 HBA HKA HKx
          cases hgx : goodF x with
          | false =>
            have HF := Lib.hid (laid_bad (st := st) (List.mem_of_getElem? HX.out) hgx)
            clear hgx
            go_wp2_with fail
            go_ret2
            exact ⟨by rw [HF.out.1, HF.out.2]; rfl, HK2.out⟩
          | true =>
            have HGX := Lib.hid hgx
            clear hgx
            obtain ⟨c1, c2, c3, c4⟩ := HCat.out
            obtain ⟨l1, l2, l3, l4⟩ := HLen.out
            have e4 := HE4.out
            generalize T ++ x.name ++ [58, 32] ++ x.value ++ [13, 10] = x4 at *
            generalize T ++ x.name ++ [58, 32] ++ x.value = x3 at *
            generalize T ++ x.name ++ [58, 32] = x2 at *
            generalize T ++ x.name = x1 at *
            have s1 := S_size x1
            have s2 := S_size x2
            have s3 := S_size x3
            have HE4 := Lib.hid e4
            clear e4 HCat HLen
            go_wp2_with fail
            go_roundg (L.length - (k + 1))
            case measure => omega
            case rel =>
              refine ⟨k + 1, x4, rfl, by go_num, by omega, rfl, by omega, Lib.hid ⟨?_, ?_⟩, HK2⟩
              · rw [HE4.out, body_take HX.out, HE.out.1]; simp
              · rw [show L.take (k + 1) = L.take k ++ [x] from by rw [List.take_add_one, HX.out]; rfl, List.all_append, HE.out.2]; simp [HGX.out]
      · have hkl : k = L.length := by omega
        have hE := HE.out
        rw [hkl, List.take_length] at hE
        have hhd : T ++ [13, 10] = headT st L := by unfold headT; rw [hE.1]
        have hlay := laid_good (st := st) (show L.length ≤ 32 by omega) hE.2
        rw [← hhd] at hlay
        have HL := Lib.hid hlay
        have hT' : (T ++ [13, 10]).length ≤ 70000000 := by simp; omega
        have hca : S T ++ (⟨#[13, 10]⟩ : ByteArray) = S (T ++ [13, 10]) := S_append T [13, 10]
        have hge : ¬ (k : Int) < (L.length : Int) := by omega
        clear hE hhd hlay HE
        generalize T ++ [13, 10] = H at HL hT' hca
        have sH := S_size H
        by_cases h4 : H.length ≤ 4096
        · have h4' : decide (4096 < ((H.length : Nat) : Int)) = false := by simp; omega
          have hl := HL.out
          rw [if_pos h4, if_pos h4] at hl
          have HL := Lib.hid hl
          clear hl h4 hkl
          go_wp2_with fail
          go_ret2
          exact ⟨by rw [HL.out.1, HL.out.2]; rfl, HK.out⟩
        · have h4' : decide (4096 < ((H.length : Nat) : Int)) = true := by simp; omega
          have hl := HL.out
          rw [if_neg h4, if_neg h4] at hl
          have HL := Lib.hid hl
          clear hl h4 hkl
          go_wp2_with fail
          go_ret2
          exact ⟨by rw [HL.out.1, HL.out.2]; rfl, HK.out⟩
end Go.Proofs.YtmfnciocnlmceaaDoor

/- Layer 12, the document's Line; layer 13, the document's Answer, Ask. No conditions but on lengths. -/
namespace Go.Proofs.YtmfnciocnlmceaaDoor
open Go.RowKit Go.Shelf

set_option maxRecDepth 100000 in
set_option maxHeartbeats 1000000 in
theorem ref13_Answer (s : Int) (va : Value) (L : List Fld) (w : World) (hs : in64 s) (ha : Sl Fld.cells 2 w va L) (hg : L.length ≤ 32 → ∀ x ∈ L, x.name.length + x.value.length ≤ 1048576) :
    Calls Tryd.prog 15 #[.int .i64 s, va] w fun e w' => e = .returned (fin (ansS s L) (ansE s L)) ∧ Keep [] w w' := by
  by_cases h1 : s < 100
  · have HX := Lib.hid (ans_no (s := s) (L := L) (by unfold statOk; simp; omega))
    clear ha hg
    go_enter Tryd.func15, Tryd.ntmps15
    go_wp2_with fail
    go_ret2
    exact ⟨by rw [HX.out.1, HX.out.2]; rfl, Keep.refl _ _⟩
  · by_cases h2 : 599 < s
    · have HX := Lib.hid (ans_no (s := s) (L := L) (by unfold statOk; simp; omega))
      have h2' : decide (s > 599) = true := by simp; omega
      clear ha hg h2
      go_enter Tryd.func15, Tryd.ntmps15
      go_wp2_with fail
      go_ret2
      exact ⟨by rw [HX.out.1, HX.out.2]; rfl, Keep.refl _ _⟩
    · have HX := Lib.hid (ans_yes (s := s) (L := L) (by unfold statOk; simp; omega))
      have h2' : decide (s > 599) = false := by simp; omega
      have h1' : decide (s < 100) = false := by simp; omega
      have hst : stOf s = protSp ++ Lib.itoa s ++ [32] ++ reasonM s := rfl
      have hlen := stOf_len s hs
      have HD := Lib.hid (ref_DecI s w (by omega) (by omega))
      have HR := Lib.hid (fun w' => ref_Reason s w')
      have li := itoa_len s hs
      have lr := reason_len s
      generalize stOf s = st at *
      generalize Lib.itoa s = ia at *
      generalize reasonM s = re at *
      have q1 : (⟨#[72, 84, 84, 80, 47, 49, 46, 49, 32]⟩ : ByteArray) ++ S ia = S (protSp ++ ia) := S_append protSp ia
      have q2 : S (protSp ++ ia) ++ (⟨#[32]⟩ : ByteArray) = S (protSp ++ ia ++ [32]) := S_append _ [32]
      have q3 : S (protSp ++ ia ++ [32]) ++ S re = S st := by rw [S_append, hst]
      have t1 : (protSp ++ ia).length = 9 + ia.length := by simp [protSp]; omega
      have t2 : (protSp ++ ia ++ [32]).length = 10 + ia.length := by simp [protSp]; omega
      generalize protSp ++ ia ++ [32] = x2 at *
      generalize protSp ++ ia = x1 at *
      have s1 := S_size ia
      have s2 := S_size re
      have s3 := S_size x1
      have s4 := S_size x2
      have HL := Lib.hid (fun w' (k : Keep [] w w') => ref_laid st va L w' (ha.keep0 Fld.cells_length (by omega) k) hg (by omega))
      clear ha hg h1 h2 hst
      go_enter Tryd.func15, Tryd.ntmps15
      go_wp2_with fail
      refine HD.out.mono ?_
      rintro e w1 ⟨rfl, k1⟩
      go_wp2_with fail
      refine (HR.out _).mono ?_
      rintro e w2 ⟨rfl, rfl⟩
      go_wp2_with fail
      refine (HL.out _ k1).mono ?_
      rintro e w3 ⟨rfl, k3⟩
      unfold fin
      go_wp2_with fail
      go_ret2
      exact ⟨by rw [HX.out.1, HX.out.2]; rfl, k1.trans k3⟩

theorem cut_at {l : List UInt8} {c : UInt8} {k : Nat} (h : Lib.indexByte l c = (k : Nat)) : Lib.cut l [c] = (l.take k, l.drop (k + 1), true) := by
  unfold Lib.cut
  rw [Lib.index_one, h, if_pos (by omega)]
  simp
theorem cut_none {l : List UInt8} {c : UInt8} (h : Lib.indexByte l c = -1) : (Lib.cut l [c]).2.2 = false := by
  unfold Lib.cut
  rw [Lib.index_one, h, if_neg (by decide)]
def lnBad : Ln := ⟨[], [], 0, 400⟩
theorem ln_k {l : List UInt8} (h : Lib.indexByte l 32 = -1) : lnM l = lnBad := ln_no (by rw [cut_none h]; rfl)
theorem ln_tok {l : List UInt8} {k : Nat} (h : Lib.indexByte l 32 = (k : Nat)) (ht : isTok (l.take k) = false) : lnM l = lnBad := ln_no (by rw [cut_at h]; simp [ht])
theorem ln_n {l : List UInt8} {k : Nat} (h : Lib.indexByte l 32 = (k : Nat)) (hn : Lib.indexByte (l.drop (k + 1)) 32 = -1) : lnM l = lnBad := ln_no (by rw [cut_at h]; simp [cut_none hn])
theorem ln_tgt {l : List UInt8} {k n : Nat} (h : Lib.indexByte l 32 = (k : Nat)) (hn : Lib.indexByte (l.drop (k + 1)) 32 = (n : Nat)) (ht : isTgt ((l.drop (k + 1)).take n) = false) : lnM l = lnBad := ln_no (by rw [cut_at h]; simp only; rw [cut_at hn]; simp [ht])
theorem ln_min {l : List UInt8} {k n : Nat} (h : Lib.indexByte l 32 = (k : Nat)) (hn : Lib.indexByte (l.drop (k + 1)) 32 = (n : Nat)) (hm : minS ((l.drop (k + 1)).drop (n + 1)) = 400) : lnM l = lnBad := by
  by_cases hb : (isTok (l.take k) && isTgt ((l.drop (k + 1)).take n)) = true
  · rw [ln_yes (by rw [cut_at h]; simp only; rw [cut_at hn]; simpa using hb)]
    rw [cut_at h]
    simp only
    rw [cut_at hn]
    simp only [hm]
    rfl
  · exact ln_no (by rw [cut_at h]; simp only; rw [cut_at hn]; simpa using hb)
theorem ln_all {l : List UInt8} {k n : Nat} (h : Lib.indexByte l 32 = (k : Nat)) (hn : Lib.indexByte (l.drop (k + 1)) 32 = (n : Nat)) (ht : isTok (l.take k) = true) (hg : isTgt ((l.drop (k + 1)).take n) = true) :
    lnM l = if minS ((l.drop (k + 1)).drop (n + 1)) = 200 then ⟨l.take k, (l.drop (k + 1)).take n, minV ((l.drop (k + 1)).drop (n + 1)), 200⟩ else ⟨[], [], 0, minS ((l.drop (k + 1)).drop (n + 1))⟩ := by
  rw [ln_yes (by rw [cut_at h]; simp only; rw [cut_at hn]; simp [ht, hg])]
  rw [cut_at h]
  simp only
  rw [cut_at hn]
theorem min_http {l : List UInt8} (h : l.take 5 ≠ httpB) : minS l = 400 := (ver_no (.inl (by rw [take5_prefix]; simp [h]))).1
theorem min_len {l : List UInt8} (h : l.length ≠ 8) : minS l = 400 := (ver_no (.inr h)).1

set_option maxRecDepth 100000 in
set_option maxHeartbeats 2000000 in
theorem ref12_Line (l : List UInt8) (w : World) (hl : l.length ≤ 1048576) :
    Calls Tryd.prog 35 #[.string (S l)] w fun e w' => e = .returned (lnM l).out ∧ Keep [] w w' := by
  have hsz := S_size l
  have hF := Lib.hid (fun w1 => ref_Find l 32 w1 (show l.length ≤ 9223372036854775807 by omega))
  have hge := Lib.indexByte_ge l 32
  by_cases hk : Lib.indexByte l 32 = -1
  · have HX := Lib.hid (ln_k hk)
    rw [hk] at hF
    clear hk hge
    go_enter Tryd.func35, Tryd.ntmps35
    go_wp2_with fail
    refine (hF.out _).mono ?_
    rintro e w1 ⟨rfl, rfl⟩
    go_wp2_with fail
    refine bodyPost_ret (res4 rfl _ _ _) rfl ⟨?_, Keep.refl _ _⟩
    rw [HX.out]
    rfl
  · obtain ⟨k, hk'⟩ : ∃ k : Nat, Lib.indexByte l 32 = k := ⟨(Lib.indexByte l 32).toNat, by omega⟩
    rw [hk'] at hF
    have hkl : k < l.length := (List.getElem?_eq_some_iff.1 (Lib.indexByte_some hk').1).1
    have hx1 : (S l).extract 0 k = S (l.take k) := by rw [S_extract]; simp
    have hx2 : (S l).extract (k + 1) l.length = S (l.drop (k + 1)) := by rw [S_extract, List.take_of_length_le (Nat.le_refl _)]
    have hT := Lib.hid (fun w1 => ref_IsToken (l.take k) w1 (by show _ ≤ 9223372036854775807; simp; omega))
    cases htk : isTok (l.take k) with
    | false =>
      rw [htk] at hT
      have HX := Lib.hid (ln_tok hk' htk)
      clear hk hk' hge htk
      go_enter Tryd.func35, Tryd.ntmps35
      go_wp2_with fail
      refine (hF.out _).mono ?_
      rintro e w1 ⟨rfl, rfl⟩
      go_wp2_with fail
      refine (hT.out _).mono ?_
      rintro e w1 ⟨rfl, rfl⟩
      go_wp2_with fail
      refine bodyPost_ret (res4 rfl _ _ _) rfl ⟨?_, Keep.refl _ _⟩
      rw [HX.out]
      rfl
    | true =>
      rw [htk] at hT
      have hF2 := Lib.hid (fun w1 => ref_Find (l.drop (k + 1)) 32 w1 (by show _ ≤ 9223372036854775807; simp; omega))
      have hge2 := Lib.indexByte_ge (l.drop (k + 1)) 32
      have hrl : (l.drop (k + 1)).length ≤ 1048576 := by simp; omega
      by_cases hn : Lib.indexByte (l.drop (k + 1)) 32 = -1
      · have HX := Lib.hid (ln_n hk' hn)
        rw [hn] at hF2
        have hsr := S_size (l.drop (k + 1))
        generalize l.drop (k + 1) = r at *
        clear hk hk' hge hge2 htk hn
        go_enter Tryd.func35, Tryd.ntmps35
        go_wp2_with fail
        refine (hF.out _).mono ?_
        rintro e w1 ⟨rfl, rfl⟩
        go_wp2_with fail
        refine (hT.out _).mono ?_
        rintro e w1 ⟨rfl, rfl⟩
        go_wp2_with fail
        refine (hF2.out _).mono ?_
        rintro e w1 ⟨rfl, rfl⟩
        go_wp2_with fail
        refine bodyPost_ret (res4 rfl _ _ _) rfl ⟨?_, Keep.refl _ _⟩
        rw [HX.out]
        rfl
      · obtain ⟨n, hn'⟩ : ∃ n : Nat, Lib.indexByte (l.drop (k + 1)) 32 = n := ⟨(Lib.indexByte (l.drop (k + 1)) 32).toNat, by omega⟩
        rw [hn'] at hF2
        have hnl : n < (l.drop (k + 1)).length := (List.getElem?_eq_some_iff.1 (Lib.indexByte_some hn').1).1
        by_cases hn0 : n = 0
        · have HX := Lib.hid (ln_tgt hk' hn' (by subst hn0; simp [isTgt]))
          have hn1 : decide ((n : Int) < 1) = true := by simp; omega
          have hsr := S_size (l.drop (k + 1))
          generalize l.drop (k + 1) = r at *
          clear hk hk' hge hge2 htk hn hn' hn0
          go_enter Tryd.func35, Tryd.ntmps35
          go_wp2_with fail
          refine (hF.out _).mono ?_
          rintro e w1 ⟨rfl, rfl⟩
          go_wp2_with fail
          refine (hT.out _).mono ?_
          rintro e w1 ⟨rfl, rfl⟩
          go_wp2_with fail
          refine (hF2.out _).mono ?_
          rintro e w1 ⟨rfl, rfl⟩
          go_wp2_with fail
          refine bodyPost_ret (res4 rfl _ _ _) rfl ⟨?_, Keep.refl _ _⟩
          rw [HX.out]
          rfl
        · have hn1 : decide ((n : Int) < 1) = false := by simp; omega
          have hlm := @ln_min l k n hk' hn'
          have hlt := @ln_tgt l k n hk' hn'
          have hla := @ln_all l k n hk' hn' htk
          have hsr := S_size (l.drop (k + 1))
          generalize lnM l = R at *
          generalize l.take k = xm at *
          generalize l.drop (k + 1) = r at *
          clear hk hk' hge hge2 htk hn hn'
          have hw0 := IntWalk.i64_in ((k : Int) + 1) (by omega)
          have hw1 := IntWalk.i64_in ((r.length : Int) - (n : Int)) (by omega)
          by_cases h9 : r.length - n = 9
          · have h9' : (r.length : Int) - (n : Int) = 9 := by omega
            have h9q := (int_eq h9').2
            have hx5 : (S r).extract (n + 1) (n + 6) = S ((r.drop (n + 1)).take 5) := by
              rw [S_extract, List.drop_take]
              congr 2
              omega
            by_cases h5 : (r.drop (n + 1)).take 5 = httpB
            · obtain ⟨a, p, c, hapc⟩ : ∃ a p c, r.drop (n + 1) = httpB ++ [a, p, c] := by
                have h8 : ((r.drop (n + 1)).drop 5).length = 3 := by simp; omega
                have e := List.take_append_drop 5 (r.drop (n + 1))
                rw [h5] at e
                generalize (r.drop (n + 1)).drop 5 = y at h8 e
                match y, h8 with
                | [a, p, c], _ => exact ⟨a, p, c, e.symm⟩
              have ga : r[n + 6]? = some a := by
                have : (r.drop (n + 1))[5]? = some a := by rw [hapc]; rfl
                rw [List.getElem?_drop] at this
                exact this
              have gp : r[n + 7]? = some p := by
                have : (r.drop (n + 1))[6]? = some p := by rw [hapc]; rfl
                rw [List.getElem?_drop] at this
                exact this
              have gc : r[n + 8]? = some c := by
                have : (r.drop (n + 1))[7]? = some c := by rw [hapc]; rfl
                rw [List.getElem?_drop] at this
                exact this
              obtain ⟨hms, hmv⟩ := ver_of a p c
              rw [← hapc] at hms hmv
              have q5 : ((r.drop (n + 1)).take 5 == [72, 84, 84, 80, 47]) = true := by rw [h5]; rfl
              generalize minS (r.drop (n + 1)) = ms at *
              generalize minV (r.drop (n + 1)) = mv at *
              generalize (r.drop (n + 1)).take 5 = x5 at *
              have hs5 := S_toList x5
              have ia := S_get ga
              have ip := S_get gp
              have ic := S_get gc
              have ca := u8_nat a
              have cp := u8_nat p
              have cc := u8_nat c
              have hw2 := IntWalk.i64_in ((n : Int) + 1) (by omega)
              have hw3 := IntWalk.i64_in ((n : Int) + 6) (by omega)
              have hw4 := IntWalk.i64_in ((n : Int) + 7) (by omega)
              have hw5 := IntWalk.i64_in ((n : Int) + 8) (by omega)
              have b1 : (n : Int) + 6 ≤ (r.length : Int) := by omega
              have b2 : (0 : Int) ≤ (n : Int) + 1 := by omega
              have b3 : (n : Int) + 1 ≤ (n : Int) + 6 := by omega
              have b0 : (0 : Int) ≤ (n : Int) + 6 := by omega
              have b4 : (n : Int) + 6 < (r.length : Int) := by omega
              have b5 : (n : Int) + 7 < (r.length : Int) := by omega
              have b6 : (n : Int) + 8 < (r.length : Int) := by omega
              have b7 : (0 : Int) ≤ (n : Int) + 7 := by omega
              have b8 : (0 : Int) ≤ (n : Int) + 8 := by omega
              clear hapc h9 h9' h5 ga gp gc
              by_cases hp : p = 46
              · have hpb : (p == 46) = true := by simp [hp]
                have hpn : ((p.toNat : Nat) : Int) = 46 := by rw [hp]; rfl
                have hpq := (int_eq hpn).2
                rw [hpb, Bool.and_true] at hms hmv
                have HMS := Lib.hid (And.intro hms hmv)
                have HLT := Lib.hid hlt
                have HLA := Lib.hid hla
                clear hp hpb hpn hms hmv hlm hlt hla
                go_enter Tryd.func35, Tryd.ntmps35
                go_wp2_with fail
                refine (hF.out _).mono ?_
                rintro e w1 ⟨rfl, rfl⟩
                go_wp2_with fail
                refine (hT.out _).mono ?_
                rintro e w1 ⟨rfl, rfl⟩
                go_wp2_with fail
                refine (hF2.out _).mono ?_
                rintro e w1 ⟨rfl, rfl⟩
                go_wp2_with fail
                clear hx5 hs5 q5 ip hpq cp
                go_loopg [9] n (fun g i wr => ∃ j : Nat, i = .int .i64 j ∧ j ≤ n ∧ g = n - j ∧ w = wr ∧ Hid ((r.take j).all tgtB = true))
                case atStart => exact ⟨0, rfl, Nat.zero_le _, by omega, rfl, by simp [Hid]⟩
                case round =>
                  obtain ⟨j, rfl, hj, hgj, rfl, hall⟩ := hrel
                  by_cases hlt : j < n
                  · obtain ⟨d, hd⟩ : ∃ d, r[j]? = some d := ⟨_, List.getElem?_eq_getElem (by omega)⟩
                    have id := S_get hd
                    have cd := u8_nat d
                    have j0 : (0 : Int) ≤ (j : Int) := by omega
                    have j1 : (j : Int) < (r.length : Int) := by omega
                    have HD := Lib.hid hd
                    clear hd
                    by_cases ht : tgtB d = true
                    · have h1 : 33 ≤ d.toNat ∧ d.toNat ≤ 126 := by simpa [tgtB] using ht
                      have h2 : ¬ d.toNat < 33 := by omega
                      have h3 : ¬ 126 < d.toNat := by omega
                      have HT := Lib.hid ht
                      have hkw := IntWalk.i64_in ((j : Int) + 1) (by omega)
                      clear ht h1
                      go_wp2_with fail
                      go_roundg (n - (j + 1))
                      case measure => omega
                      case rel => exact ⟨j + 1, by go_num, by omega, rfl, rfl, by rw [Hid, take_snoc HD.out, List.all_append, hall.out]; simp [HT.out]⟩
                    · have hbad : isTgt (r.take n) = false := by
                        unfold isTgt
                        rw [show (r.take n).all tgtB = false from by rw [List.all_eq_false]; exact ⟨d, List.mem_of_getElem? (i := j) (by rw [List.getElem?_take_of_lt hlt]; exact HD.out), ht⟩]
                        rfl
                      have HX := Lib.hid (HLT.out hbad)
                      by_cases h2 : d.toNat < 33
                      · clear ht hbad
                        go_wp2_with fail
                        refine bodyPost_ret (res4 rfl _ _ _) rfl ⟨?_, Keep.refl _ _⟩
                        rw [HX.out]
                        rfl
                      · have h3 : 126 < d.toNat := by
                          simp [tgtB] at ht
                          omega
                        clear ht hbad
                        go_wp2_with fail
                        refine bodyPost_ret (res4 rfl _ _ _) rfl ⟨?_, Keep.refl _ _⟩
                        rw [HX.out]
                        rfl
                  · have hjn : j = n := by omega
                    have hgt : isTgt (r.take n) = true := by
                      unfold isTgt
                      rw [← hjn, hall.out]
                      have : r.take j ≠ [] := by
                        intro e
                        have := congrArg List.length e
                        rw [List.length_take, List.length_nil] at this
                        omega
                      cases hq : r.take j with
                      | nil => exact absurd hq this
                      | cons _ _ => rfl
                    have hR := HLA.out hgt
                    have hge : ¬ (j : Int) < (n : Int) := by omega
                    clear hgt hjn hall hgj
                    have hx3 : (S r).extract 0 n = S (r.take n) := by rw [S_extract]; simp
                    generalize r.take n = xt at *
                    obtain ⟨hms, hmv⟩ := HMS.out
                    by_cases a1 : a.toNat < 48
                    · have hda : digB a = false := by simp [digB]; omega
                      rw [hda] at hms
                      have HX := Lib.hid (show R = lnBad by rw [hR, hms]; rfl)
                      clear hda
                      clear hR hms hmv
                      go_wp2_with fail
                      refine bodyPost_ret (res4 rfl _ _ _) rfl ⟨?_, Keep.refl _ _⟩
                      rw [HX.out]
                      rfl
                    · by_cases a2 : 57 < a.toNat
                      · have hda : digB a = false := by simp [digB]; omega
                        rw [hda] at hms
                        have HX := Lib.hid (show R = lnBad by rw [hR, hms]; rfl)
                        clear hda
                        clear hR hms hmv
                        go_wp2_with fail
                        refine bodyPost_ret (res4 rfl _ _ _) rfl ⟨?_, Keep.refl _ _⟩
                        rw [HX.out]
                        rfl
                      · have hda : digB a = true := by simp [digB]; omega
                        rw [hda] at hms hmv
                        by_cases c1 : c.toNat < 48
                        · have hdc : digB c = false := by simp [digB]; omega
                          rw [hdc] at hms
                          have HX := Lib.hid (show R = lnBad by rw [hR, hms]; rfl)
                          clear hda hdc
                          clear hR hms hmv
                          go_wp2_with fail
                          refine bodyPost_ret (res4 rfl _ _ _) rfl ⟨?_, Keep.refl _ _⟩
                          rw [HX.out]
                          rfl
                        · by_cases c2 : 57 < c.toNat
                          · have hdc : digB c = false := by simp [digB]; omega
                            rw [hdc] at hms
                            have HX := Lib.hid (show R = lnBad by rw [hR, hms]; rfl)
                            clear hda hdc
                            clear hR hms hmv
                            go_wp2_with fail
                            refine bodyPost_ret (res4 rfl _ _ _) rfl ⟨?_, Keep.refl _ _⟩
                            rw [HX.out]
                            rfl
                          · have hdc : digB c = true := by simp [digB]; omega
                            rw [hdc] at hms hmv
                            simp only [Bool.and_self, if_true] at hms hmv
                            by_cases ha : a = 49
                            · have han : ((a.toNat : Nat) : Int) = 49 := by rw [ha]; rfl
                              have haq := (int_eq han).2
                              by_cases hc : c.toNat ≤ 49
                              · rw [if_pos ⟨ha, hc⟩] at hms hmv
                                have hcq : decide (((c.toNat : Nat) : Int) > 49) = false := by simp; omega
                                have hwr := IntWalk.u8_in ((c.toNat : Int) - 48) (by omega)
                                have hwi := IntWalk.i64_in ((c.toNat : Int) - 48) (by omega)
                                have k0 : (0 : Int) ≤ (k : Int) := by omega
                                have k1 : (k : Int) ≤ (l.length : Int) := by omega
                                have n0 : (0 : Int) ≤ (n : Int) := by omega
                                have n1 : (n : Int) ≤ (r.length : Int) := by omega
                                have HX := Lib.hid (show R = ⟨xm, xt, (c.toNat : Int) - 48, 200⟩ by rw [hR, hms, if_pos rfl, hmv])
                                clear hda hdc ha han hR hms hmv
                                go_wp2_with fail
                                refine wp_region_quiet_lit (by kernel_rfl) (by kernel_rfl) ?_
                                repeat (go_big_quiet_step (fail))
                                refine wpQuiet_nil ?_
                                intro _ hw'
                                obtain ⟨nq, hw''⟩ := hw'
                                subst hw''
                                go_wp2_with fail
                                refine bodyPost_ret (res4 rfl _ _ _) rfl ⟨?_, (Keep.refl _ _).drewN _⟩
                                rw [HX.out]
                                rfl
                              · rw [if_neg (fun h => hc h.2)] at hms
                                have hcq : decide (((c.toNat : Nat) : Int) > 49) = true := by simp; omega
                                have HX := Lib.hid (show R = ⟨[], [], 0, 505⟩ by rw [hR, hms]; rfl)
                                clear hda hdc ha han
                                clear hR hms hmv
                                go_wp2_with fail
                                refine bodyPost_ret (res4 rfl _ _ _) rfl ⟨?_, Keep.refl _ _⟩
                                rw [HX.out]
                                rfl
                            · rw [if_neg (fun h => ha h.1)] at hms
                              have han : ((a.toNat : Nat) : Int) ≠ 49 := fun e => ha (UInt8.toNat_inj.1 (by show a.toNat = 49; omega))
                              have haq := (int_ne han).2
                              have HX := Lib.hid (show R = ⟨[], [], 0, 505⟩ by rw [hR, hms]; rfl)
                              clear hda hdc ha han
                              clear hR hms hmv
                              go_wp2_with fail
                              refine bodyPost_ret (res4 rfl _ _ _) rfl ⟨?_, Keep.refl _ _⟩
                              rw [HX.out]
                              rfl
              · have hpb : (p == 46) = false := by simp [hp]
                have hpn : ((p.toNat : Nat) : Int) ≠ 46 := fun e => hp (UInt8.toNat_inj.1 (by show p.toNat = 46; omega))
                have hpq := (int_ne hpn).2
                rw [hpb, Bool.and_false] at hms
                have HX := Lib.hid (hlm (hms.trans (by simp)))
                clear hlm hlt hla hp hpb hpn hms hmv
                go_enter Tryd.func35, Tryd.ntmps35
                go_wp2_with fail
                refine (hF.out _).mono ?_
                rintro e w1 ⟨rfl, rfl⟩
                go_wp2_with fail
                refine (hT.out _).mono ?_
                rintro e w1 ⟨rfl, rfl⟩
                go_wp2_with fail
                refine (hF2.out _).mono ?_
                rintro e w1 ⟨rfl, rfl⟩
                go_wp2_with fail
                refine bodyPost_ret (res4 rfl _ _ _) rfl ⟨?_, Keep.refl _ _⟩
                rw [HX.out]
                rfl
            · have HX := Lib.hid (hlm (min_http h5))
              have q5 : ((r.drop (n + 1)).take 5 == [72, 84, 84, 80, 47]) = false := by rw [beq_eq_false_iff_ne]; exact h5
              generalize (r.drop (n + 1)).take 5 = x5 at *
              have hs5 := S_toList x5
              have hw2 := IntWalk.i64_in ((n : Int) + 1) (by omega)
              have hw3 := IntWalk.i64_in ((n : Int) + 6) (by omega)
              have b1 : (n : Int) + 6 ≤ (r.length : Int) := by omega
              have b2 : (0 : Int) ≤ (n : Int) + 1 := by omega
              have b3 : (n : Int) + 1 ≤ (n : Int) + 6 := by omega
              have b0 : (0 : Int) ≤ (n : Int) + 6 := by omega
              clear hlm hlt hla h9 h9'
              go_enter Tryd.func35, Tryd.ntmps35
              go_wp2_with fail
              refine (hF.out _).mono ?_
              rintro e w1 ⟨rfl, rfl⟩
              go_wp2_with fail
              refine (hT.out _).mono ?_
              rintro e w1 ⟨rfl, rfl⟩
              go_wp2_with fail
              refine (hF2.out _).mono ?_
              rintro e w1 ⟨rfl, rfl⟩
              go_wp2_with fail
              refine bodyPost_ret (res4 rfl _ _ _) rfl ⟨?_, Keep.refl _ _⟩
              rw [HX.out]
              rfl
          · have h9' : (r.length : Int) - (n : Int) ≠ 9 := by omega
            have h9q := (int_ne h9').2
            have HX := Lib.hid (hlm (min_len (by simp; omega)))
            clear hlm hlt hla h9 h9'
            go_enter Tryd.func35, Tryd.ntmps35
            go_wp2_with fail
            refine (hF.out _).mono ?_
            rintro e w1 ⟨rfl, rfl⟩
            go_wp2_with fail
            refine (hT.out _).mono ?_
            rintro e w1 ⟨rfl, rfl⟩
            go_wp2_with fail
            refine (hF2.out _).mono ?_
            rintro e w1 ⟨rfl, rfl⟩
            go_wp2_with fail
            refine bodyPost_ret (res4 rfl _ _ _) rfl ⟨?_, Keep.refl _ _⟩
            rw [HX.out]
            rfl
end Go.Proofs.YtmfnciocnlmceaaDoor

/- Layer 12: what the statements are awake to; the statement InletLines. No conditions. -/
namespace Go.Proofs.YtmfnciocnlmceaaDoor
open Go.RowKit Go.Shelf

def aiS1 : List UInt8 := [71, 69, 84, 32, 47, 118, 50, 47, 32, 72, 84, 84, 80, 47, 49, 46, 49, 13, 10, 72, 111, 115, 116, 58, 32, 97, 13, 10, 13, 10, 71, 69, 84]
def aiS2 : List UInt8 := [71, 69, 84, 32, 47, 32, 72, 84, 84, 80, 47, 49, 46, 49, 13, 10, 72, 111, 115, 116, 58, 32, 97, 13, 10, 67, 111, 110, 116, 101, 110, 116, 45, 76, 101, 110, 103, 116, 104, 58, 32, 53, 48, 48, 48, 13, 10, 13, 10]
def aiS3 : List UInt8 := [71, 69, 84, 32, 47, 32, 72, 84, 84, 80, 47, 50, 46, 48]
def aiI1 : InS := { in0 with inp := aiS1 }
def aiI2 : InS := { in0 with inp := [71, 69, 84] }
def aiJ1 : InS := { in0 with inp := aiS2 }
def aiQ : Req := ⟨[71, 69, 84], [47, 118, 50, 47], [⟨[72, 111, 115, 116], [97]⟩], false⟩
theorem ai1 : inAdd in0 aiS1 = (aiI1, 0) := by kernel_rfl
theorem ai2 : nextI aiI1 = ⟨aiI2, aiQ, 200⟩ := by kernel_rfl
theorem ai3 : nextI aiI2 = ⟨aiI2, req0, 0⟩ := by kernel_rfl
theorem ai4 : inAdd in0 aiS2 = (aiJ1, 0) := by kernel_rfl
theorem ai5 : nextI aiJ1 = ⟨{ aiJ1 with st := 413 }, req0, 413⟩ := by kernel_rfl
theorem ai6 : lnM aiS3 = ⟨[], [], 0, 505⟩ := by kernel_rfl
theorem aiI1_ok : aiI1.ok := by have h := inAdd_ok in0_ok aiS1; rw [ai1] at h; exact h
theorem aiI2_ok : aiI2.ok := by have h := next_ok aiI1_ok; rw [ai2] at h; exact h
theorem aiJ1_ok : aiJ1.ok := by have h := inAdd_ok in0_ok aiS2; rw [ai4] at h; exact h
set_option maxRecDepth 100000 in
set_option maxHeartbeats 8000000 in
theorem inlet_awake (w : World) (hm : ML w) : Calls Tryd.prog 34 #[] w fun e w' => e = .returned (.bool true) ∧ Keep [] w w' := by
  have hbig := hm.lt
  have HM := Lib.hid hm
  have HN := Lib.hid (fun w' (k : Keep [] w w') => inlet_New w.heap.size w' k.size)
  have HLn := Lib.hid (fun w' (k : Keep [] w w') => inlet_Line aiS3 w' (hm.keep k (by simp)) (by decide))
  rw [ai6] at HLn
  unfold Ln.out at HLn
  dsimp only at HLn
  have t1 := S_toList [71, 69, 84]
  have t2 := S_toList [47, 118, 50, 47]
  clear hm
  go_enter Tryd.func34, Tryd.ntmps34
  go_wp2_with fail
  refine (HN.out _ (Keep.refl _ _)).mono ?_
  rintro e w1 ⟨p, rfl, hp, hx, k1⟩
  have K1 := Lib.hid k1
  have HA := Lib.hid (inlet_Add aiS1 hx (by decide) (by decide))
  rw [ai1] at HA
  have P1 := Lib.hid hx
  clear hx k1
  go_wp2_with fail
  refine HA.out.mono ?_
  rintro e w2 ⟨rfl, hx, k2⟩
  have K2 := Lib.hid (K1.out.above k2 (by intro x hh; simp at hh; omega))
  have HX := Lib.hid (inlet_Next hx (HM.out.keep K2.out (by simp)) K2.out.size hbig aiI1_ok)
  rw [ai2] at HX
  unfold NextOut at HX
  dsimp only at HX
  have P2 := Lib.hid hx
  clear hx k2 HA P1
  go_wp2_with fail
  refine HX.out.mono ?_
  rintro e w3 ⟨v, X3, R3, rfl, hx, k3, n3, r3, ho, hg⟩
  obtain ⟨sa, sc, rfl, _⟩ := ho.shape
  have K3 := Lib.hid (K2.out.above k3 (fun x hh => (P2.out.lo x hh).1))
  have kA := (Keep.refl [] w3).alloc (.cells (reqC aiQ.m aiQ.t (.slice sa aiQ.F.length sc) aiQ.cl).toArray 65)
  have bA := Blk.newA w3 (reqC aiQ.m aiQ.t (.slice sa aiQ.F.length sc) aiQ.cl).toArray 65
  generalize hwA : w3.alloc (.cells (reqC aiQ.m aiQ.t (.slice sa aiQ.F.length sc) aiQ.cl).toArray 65) = wA at kA bA
  have P3 := Lib.hid (hx.keep0 kA)
  have KA := Lib.hid (K3.out.trans kA)
  have BA := Lib.hid (show Blk wA w3.heap.size 65 (reqC aiQ.m aiQ.t (.slice sa aiQ.F.length sc) aiQ.cl) from bA)
  have hnX := Lib.hid (show w3.heap.size ∉ X3 from fun hh => by have := (hx.lo _ hh).2; omega)
  have HX2 := Lib.hid (inlet_Next P3.out (HM.out.keep KA.out (by simp)) KA.out.size hbig aiI2_ok)
  rw [ai3] at HX2
  unfold NextOut at HX2
  dsimp only at HX2
  have HO1 := Lib.hid (reqC_one aiQ.m aiQ.t (v := .slice sa aiQ.F.length sc) aiQ.cl rfl)
  clear hx k3 n3 r3 ho hg kA bA HX P2 K1 K2
  go_wp2_with (first
    | (with_reducible (show wpList _ _ _ ((⟨none, .store _ (.tmp 2) (.tmp 24), _, _, _, none⟩ : Oper) :: _) _ _)
       refine wpList_store_fresh rfl 65 (.tmp 2) (.tmp 24) rfl _ (reqC aiQ.m aiQ.t (.slice sa aiQ.F.length sc) aiQ.cl) (by rfl) (by rfl) req_size (by rfl) HO1.out ?_
       rw [hwA]
       try simp only [Act.put, List.setIfInBounds_toArray, List.set_cons_succ, List.set_cons_zero])
    | fail)
  refine HX2.out.mono ?_
  rintro e w4 ⟨v, X4, R4, rfl, hx, k4, n4, r4, ho, hg⟩
  obtain ⟨sb, sd, rfl, _⟩ := ho.shape
  have K4 := Lib.hid (KA.out.above k4 (fun x hh => (P3.out.lo x hh).1))
  have B4 := Lib.hid (k4.blk BA.out hnX.out)
  have kB := (Keep.refl [] w4).alloc (.cells (reqC req0.m req0.t (.slice sb req0.F.length sd) req0.cl).toArray 65)
  generalize hwB : w4.alloc (.cells (reqC req0.m req0.t (.slice sb req0.F.length sd) req0.cl).toArray 65) = wB at kB
  have P4 := Lib.hid (hx.keep0 kB)
  have KB := Lib.hid (K4.out.trans kB)
  have BB := Lib.hid (kB.blk B4.out (by simp))
  have HO2 := Lib.hid (reqC_one req0.m req0.t (v := .slice sb req0.F.length sd) req0.cl rfl)
  clear hx k4 n4 r4 ho hg kB HX2 hnX BA KA P3 B4 K4 hwA HO1
  go_wp2_with (first
    | (with_reducible (show wpList _ _ _ ((⟨none, .store _ (.tmp 4) (.tmp 29), _, _, _, none⟩ : Oper) :: _) _ _)
       refine wpList_store_fresh rfl 65 (.tmp 4) (.tmp 29) rfl _ (reqC req0.m req0.t (.slice sb req0.F.length sd) req0.cl) (by rfl) (by rfl) req_size (by rfl) HO2.out ?_
       rw [hwB]
       try simp only [Act.put, List.setIfInBounds_toArray, List.set_cons_succ, List.set_cons_zero])
    | fail)
  refine (HN.out _ KB.out).mono ?_
  rintro e w5 ⟨q, rfl, hq, hx, k5⟩
  have K5 := Lib.hid (KB.out.trans k5)
  have P5 := Lib.hid (P4.out.keep0 k5)
  have B5 := Lib.hid (k5.blk BB.out (by simp))
  have HA := Lib.hid (inlet_Add aiS2 hx (by decide) (by decide))
  rw [ai4] at HA
  have Q5 := Lib.hid hx
  have hs1 := P4.out.lo
  have hs2 := P4.out.ro
  have hb1 := BB.out.lt
  have SP := Lib.hid (show (∀ x ∈ X4, x ∉ [q]) ∧ (∀ x ∈ R4, x ∉ [q]) ∧ w3.heap.size ∉ [q] from ⟨fun x hh => by have := (hs1 x hh).2; simp; omega, fun x hh => by have := (hs2 x hh).2.1; simp; omega, by simp; omega⟩)
  clear hx k5 hs1 hs2 hb1 hwB HO2 KB P4 BB
  go_wp2_with fail
  refine HA.out.mono ?_
  rintro e w6 ⟨rfl, hx, k6⟩
  have K6 := Lib.hid (K5.out.above k6 (by intro x hh; have := (Q5.out.lo x (by simpa using hh)).1; omega))
  have P6 := Lib.hid (P5.out.keep k6 SP.out.1 SP.out.2.1)
  have B6 := Lib.hid (k6.blk B5.out SP.out.2.2)
  have HX := Lib.hid (inlet_Next hx (HM.out.keep K6.out (by simp)) K6.out.size hbig aiJ1_ok)
  rw [ai5] at HX
  unfold NextOut at HX
  dsimp only at HX
  have Q6 := Lib.hid hx
  clear hx k6 HA Q5 K5 P5 B5
  go_wp2_with fail
  refine HX.out.mono ?_
  rintro e w7 ⟨v, X7, R7, rfl, hx, k7, n7, r7, ho, hg⟩
  obtain ⟨sb, sd, rfl, _⟩ := ho.shape
  have K7 := Lib.hid (K6.out.above k7 (fun x hh => (Q6.out.lo x hh).1))
  have P7 := Lib.hid (P6.out.keep k7 SP.out.1 SP.out.2.1)
  have B7 := Lib.hid (k7.blk B6.out SP.out.2.2)
  have kB := (Keep.refl [] w7).alloc (.cells (reqC req0.m req0.t (.slice sb req0.F.length sd) req0.cl).toArray 65)
  generalize hwB : w7.alloc (.cells (reqC req0.m req0.t (.slice sb req0.F.length sd) req0.cl).toArray 65) = wB at kB
  have P8 := Lib.hid (P7.out.keep0 kB)
  have Q8 := Lib.hid (hx.keep0 kB)
  have K8 := Lib.hid (K7.out.trans kB)
  have B8 := Lib.hid (kB.blk B7.out (by simp))
  have HO2 := Lib.hid (reqC_one req0.m req0.t (v := .slice sb req0.F.length sd) req0.cl rfl)
  clear hx k7 n7 r7 ho hg kB HX Q6 K6 P6 B6 SP K7 P7 B7
  go_wp2_with (first
    | (with_reducible (show wpList _ _ _ ((⟨none, .store _ (.tmp 7) (.tmp 37), _, _, _, none⟩ : Oper) :: _) _ _)
       refine wpList_store_fresh rfl 65 (.tmp 7) (.tmp 37) rfl _ (reqC req0.m req0.t (.slice sb req0.F.length sd) req0.cl) (by rfl) (by rfl) req_size (by rfl) HO2.out ?_
       rw [hwB]
       try simp only [Act.put, List.setIfInBounds_toArray, List.set_cons_succ, List.set_cons_zero])
    | fail)
  refine (HLn.out _ K8.out).mono ?_
  rintro e w9 ⟨rfl, k9⟩
  have K9 := Lib.hid (K8.out.trans k9)
  have B9 := k9.blk B8.out (by simp)
  have b0 := B9.get (k := 0) (v := .string (S [71, 69, 84])) rfl
  have b1 := B9.get (k := 1) (v := .string (S [47, 118, 50, 47])) rfl
  have b2 := B9.get (k := 2) (v := .slice sa 1 sc) rfl
  have b3 := B9.get (k := 3) (v := .bool false) rfl
  have HL := Lib.hid (inlet_Left (P8.out.keep0 k9) (by decide))
  have hl3 : aiI2.left = 3 := rfl
  rw [hl3] at HL
  have Q9 := Lib.hid (Q8.out.keep0 k9)
  clear hwB HO2 K8 P8 B8 Q8 k9 B9 HLn hl3
  go_wp2_with fail
  refine HL.out.mono ?_
  rintro e w10 ⟨rfl, k10⟩
  have K10 := Lib.hid (K9.out.trans k10)
  have HA := Lib.hid (inlet_Add [120] (Q9.out.keep0 k10) (by decide) (by decide))
  have h8 : (inAdd { aiJ1 with st := 413 } [120]).2 = 8 := by kernel_rfl
  rw [h8] at HA
  have hX7 := Lib.hid (Q9.out.base)
  clear h8 k10 HL
  go_wp2_with fail
  refine HA.out.mono ?_
  rintro e w11 ⟨rfl, _, k11⟩
  have K11 := Lib.hid (K10.out.above k11 (by intro x hh; have := hX7.out; simp at hh; omega))
  clear k11
  go_wp2_with fail
  go_ret
  exact ⟨rfl, K11.out⟩

set_option maxRecDepth 100000 in
set_option maxHeartbeats 4000000 in
theorem inletLines_walk (s : List UInt8) (w : World) (hm : ML w) (hs : s.length ≤ maxLen) :
    Calls Tryd.prog 9 #[.string (S s)] w fun e w' => e = .returned (.bool true) ∧ Keep [] w w' := by
  have hs' : s.length ≤ 9223372036854775807 := hs
  have s0 := S_size s
  have HA := Lib.hid (inlet_awake w hm)
  by_cases hl : 4096 < s.length
  · have q : decide ((s.length : Int) > 4096) = true := by simp; omega
    clear hl hm
    go_enter Tryd.func9, Tryd.ntmps9
    go_wp2_with fail
    refine HA.out.mono ?_
    rintro e w1 ⟨rfl, k1⟩
    have K1 := Lib.hid k1
    clear k1
    go_wp2_with fail
    go_ret
    exact ⟨rfl, K1.out⟩
  · have q : decide ((s.length : Int) > 4096) = false := by simp; omega
    have H1 := Lib.hid (fun w' (k : Keep [] w w') => inlet_Line s w' (hm.keep k (by simp)) (by omega))
    have H2 := Lib.hid (fun w' => ref12_Line s w' (by omega))
    unfold Ln.out at H1 H2
    generalize lnM s = ln at *
    obtain ⟨lm, lt, lv, ls⟩ := ln
    dsimp only at H1 H2
    have t1 := S_toList lm
    have t2 := S_toList lt
    clear hl hm
    go_enter Tryd.func9, Tryd.ntmps9
    go_wp2_with fail
    refine HA.out.mono ?_
    rintro e w1 ⟨rfl, k1⟩
    have K1 := Lib.hid k1
    clear k1
    go_wp2_with fail
    refine (H1.out _ K1.out).mono ?_
    rintro e w2 ⟨rfl, k2⟩
    have K2 := Lib.hid (K1.out.trans k2)
    clear k2
    go_wp2_with fail
    refine (H2.out _).mono ?_
    rintro e w3 ⟨rfl, k3⟩
    have K3 := Lib.hid (K2.out.trans k3)
    clear k3
    go_wp2_with fail
    go_ret
    exact ⟨ret_bool (by simp), K3.out⟩
end Go.Proofs.YtmfnciocnlmceaaDoor
