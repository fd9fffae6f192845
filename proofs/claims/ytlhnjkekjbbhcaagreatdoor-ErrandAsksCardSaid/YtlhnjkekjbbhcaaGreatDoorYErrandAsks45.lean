/- Parts of the proof of ErrandAsks, in order. No conditions but those that each theorem states. -/
import Derived.Test.YtlhnjkekjbbhcaaGreatDoorYErrandAsks0
import Derived.Lib.SlBytesConst
import Derived.Lib.LaidTab
import Derived.Lib.ItoaNum
import Derived.Lib.ItoaLen
import Derived.Sort.Grow
import Derived.DeepKeys4
import Derived.Test.YtlhnjkekjbbhcaaGreatDoorYErrandAsks44
set_option linter.unusedSimpArgs false
set_option linter.unusedVariables false
namespace Go.Proofs.YtlhnjkekjbbhcaaGreatDoor
open Go.RowKit Go.Shelf
def smallIn (k : Ky) (t : Tk) (a : Ans) : Prop := k.repo.length + k.tag.length + t.typ.length ≤ 1000 ∧ a.F.length ≤ 40 ∧ ∀ f ∈ a.F, f.name.length + f.value.length ≤ 1000
def GreatOut (w : World) (k : Ky) (t : Tk) (a : Ans) (e : Ending) (w' : World) : Prop := ∃ v : Bool, e = .returned (.bool v) ∧ (v = false → smallIn k t a) ∧ Keep [] w w'
set_option maxRecDepth 100000 in
set_option maxHeartbeats 8000000 in
theorem law24_great (k : Ky) (t : Tk) (a : Ans) (va : Value) (w : World) (ha : AnOk w a va) (hk1 : k.repo.length ≤ 140737488351232) (hk2 : k.tag.length ≤ 140737488351232) (ht : t.typ.length ≤ 140737488351232) :
    Calls Tryz.prog 9 #[.agg k.cells.toArray, .agg t.cells.toArray, .agg (ansC a.st va a.len a.ch a.cl).toArray] w (GreatOut w k t a) := by
  have M0 := Lib.hid (Mem.nil w); have hz1 : (S k.repo).size = k.repo.length := rfl; have hz2 : (S k.tag).size = k.tag.length := rfl; have hz3 : (S t.typ).size = t.typ.length := rfl; obtain ⟨aa, ca, rfl, hal⟩ := ha.sl.shape; have HA := Lib.hid ha; have hal' : a.F.length ≤ 9223372036854775807 := hal; have c1 : k.cells[1]? = some (.string (S k.repo)) := rfl; have c2 : k.cells[2]? = some (.string (S k.tag)) := rfl; have C1 := Lib.hid c1; have C2 := Lib.hid c2; have C35 := Lib.hid t.at_typ; have A1 := Lib.hid (show (ansC a.st (.slice aa a.F.length ca) a.len a.ch a.cl)[1]? = some (.slice aa a.F.length ca) from rfl); generalize hac : ansC a.st (.slice aa a.F.length ca) a.len a.ch a.cl = ac at *; clear ha c1 c2 hal hac; by_cases hbig : 1000 < k.repo.length + k.tag.length + t.typ.length
  · go_enter Tryz.func9, Tryz.ntmps9; go_wp2_with (first | ((with_reducible refine gX 3 ?_); refine wpList_boxM rfl 25 (.tmp 0) rfl (k.cells) (by rfl) M0 ?_; intro b3 w1 M1 _ _; try simp only [Act.put, sqA, sqB, sqC]) | ((with_reducible refine gX 4 ?_); refine wpList_boxM rfl 27 (.tmp 1) rfl (t.cells) (by rfl) M1 ?_; intro b4 w2 M2 _ _; try simp only [Act.put, sqA, sqB, sqC]) | ((with_reducible refine gX 5 ?_); refine wpList_boxM rfl 30 (.tmp 2) rfl (ac) (by rfl) M2 ?_; intro b5 w3 M3 _ _; have d1 := M3.out.get 2 rfl 1 C1.out; have d2 := M3.out.get 2 rfl 2 C2.out; have d3 := M3.out.get 1 rfl 35 C35.out; try simp only [Act.put, sqA, sqB, sqC]) | fail); go_ret; exact ⟨_, rfl, fun h => by simp at h, M3.out.kp⟩
  by_cases h40 : 40 < a.F.length
  · go_enter Tryz.func9, Tryz.ntmps9; go_wp2_with (first | ((with_reducible refine gX 3 ?_); refine wpList_boxM rfl 25 (.tmp 0) rfl (k.cells) (by rfl) M0 ?_; intro b3 w1 M1 _ _; try simp only [Act.put, sqA, sqB, sqC]) | ((with_reducible refine gX 4 ?_); refine wpList_boxM rfl 27 (.tmp 1) rfl (t.cells) (by rfl) M1 ?_; intro b4 w2 M2 _ _; try simp only [Act.put, sqA, sqB, sqC]) | ((with_reducible refine gX 5 ?_); refine wpList_boxM rfl 30 (.tmp 2) rfl (ac) (by rfl) M2 ?_; intro b5 w3 M3 _ _; have d1 := M3.out.get 2 rfl 1 C1.out; have d2 := M3.out.get 2 rfl 2 C2.out; have d3 := M3.out.get 1 rfl 35 C35.out; have d4 := M3.out.get 0 rfl 1 A1.out; try simp only [Act.put, sqA, sqB, sqC]) | fail); go_ret; exact ⟨_, rfl, fun h => by simp at h, M3.out.kp⟩
  have HB := Lib.hid (show k.repo.length + k.tag.length + t.typ.length ≤ 1000 from by omega); have H40 := Lib.hid (show a.F.length ≤ 40 from by omega); go_enter Tryz.func9, Tryz.ntmps9
  go_wp2_with (first | ((with_reducible refine gX 3 ?_); refine wpList_boxM rfl 25 (.tmp 0) rfl (k.cells) (by rfl) M0 ?_; intro b3 w1 M1 _ _; try simp only [Act.put, sqA, sqB, sqC]) | ((with_reducible refine gX 4 ?_); refine wpList_boxM rfl 27 (.tmp 1) rfl (t.cells) (by rfl) M1 ?_; intro b4 w2 M2 _ _; try simp only [Act.put, sqA, sqB, sqC]) | ((with_reducible refine gX 5 ?_); refine wpList_boxM rfl 30 (.tmp 2) rfl (ac) (by rfl) M2 ?_; intro b5 w3 M3 _ _; have d1 := M3.out.get 2 rfl 1 C1.out; have d2 := M3.out.get 2 rfl 2 C2.out; have d3 := M3.out.get 1 rfl 35 C35.out; have d4 := M3.out.get 0 rfl 1 A1.out; try simp only [Act.put, sqA, sqB, sqC]) | fail); clear d1 d2 d3 d4 hz1 hz2 hz3 hbig h40
  go_loopg [7] a.F.length (fun g i wr => ∃ j : Nat, i = .int .i64 j ∧ j ≤ a.F.length ∧ g = a.F.length - j ∧ Hid (∀ f ∈ a.F.take j, f.name.length + f.value.length ≤ 1000) ∧ Hid (Keep [] w3 wr))
  case atStart => exact ⟨0, rfl, Nat.zero_le _, by omega, Lib.hid (by simp), Lib.hid (Keep.refl _ _)⟩
  case round =>
    obtain ⟨j, rfl, hj, hgj, hall, hkr⟩ := hrel; have MR := Lib.hid (M3.out.keep0 hkr.out); have d4 := MR.out.get 0 rfl 1 A1.out; by_cases hlt : j < a.F.length
    · obtain ⟨x, hx⟩ : ∃ x, a.F[j]? = some x := ⟨_, List.getElem?_eq_getElem hlt⟩
      obtain ⟨b1, o1, c1, e1, l1, m1, x1⟩ := HA.out.sl.cell hx; simp only [Value.slice.injEq] at e1; obtain ⟨rfl, _, rfl⟩ := e1; have a0 := x1 0 (by omega); have a1 := x1 1 (by omega); simp only [Fld.cells, List.getElem?_cons_zero, List.getElem?_cons_succ, Nat.add_zero] at a0 a1; have f0 := MR.out.kp.load a0; have f1 := MR.out.kp.load a1; have hz1 : (S x.name).size = x.name.length := rfl; have hz2 : (S x.value).size = x.value.length := rfl; have hn := HA.out.gf x (List.mem_of_getElem? hx); have hn1 := hn.1; have hn2 := hn.2; have HX := Lib.hid hx; clear hx x1 l1 m1 a0 a1 hn; by_cases hle : x.name.length + x.value.length ≤ 1000
      · have hnew := Lib.hid (show ∀ f ∈ a.F.take (j + 1), f.name.length + f.value.length ≤ 1000 from fun f hf => by
          rw [List.take_add_one, HX.out] at hf; rcases List.mem_append.1 hf with hf | hf
          · exact hall.out f hf
          · have : f = x := by simpa using hf
            rw [this]; exact hle)
        have hwr : IntKind.i64.wrap ((x.name.length : Int) + (x.value.length : Int)) = (x.name.length : Int) + (x.value.length : Int) := IntWalk.i64_in _ (by omega); have hdec : decide ((1000 : Int) < (x.name.length : Int) + (x.value.length : Int)) = false := by simp; omega
        go_wp2_with fail; go_quiet (fail); go_wp2_with fail
        go_roundg (a.F.length - (j + 1))
        case measure => omega
        case rel => exact ⟨j + 1, by go_num, by omega, rfl, hnew, Lib.hid (hkr.out.trans ((Keep.refl _ _).drewN _))⟩
      · have hwr : IntKind.i64.wrap ((x.name.length : Int) + (x.value.length : Int)) = (x.name.length : Int) + (x.value.length : Int) := IntWalk.i64_in _ (by omega); have hdec : decide ((1000 : Int) < (x.name.length : Int) + (x.value.length : Int)) = true := by simp; omega
        go_wp2_with fail; go_quiet (fail); go_wp2_with fail; go_ret; exact ⟨_, rfl, fun h => by simp at h, (MR.out.kp.trans ((Keep.refl _ _).drewN _))⟩
    · have hlen := Lib.hid (show a.F.take j = a.F from List.take_of_length_le (by omega)); go_wp2_with fail; go_ret; exact ⟨_, rfl, fun _ => ⟨HB.out, H40.out, fun f hf => hall.out f (by rw [hlen.out]; exact hf)⟩, MR.out.kp⟩
theorem laid_ok {st : List UInt8} {L : List Fld} (h : laidE st L = 0) : laidS st L = headT st L ∧ L.length ≤ 32 ∧ (∀ f ∈ L, goodF f = true) ∧ (headT st L).length ≤ 4096 := by
  have hs : laidS st L = headT st L := by unfold laidS; rw [if_pos h]
  unfold laidE at h
  cases hk : laidOk L with
  | false => rw [hk] at h; simp at h
  | true =>
    rw [hk, if_pos rfl] at h
    have hl : (headT st L).length ≤ 4096 := by
      by_cases hl : (headT st L).length ≤ 4096
      · exact hl
      · rw [if_neg hl] at h; simp at h
    unfold laidOk at hk; simp at hk; exact ⟨hs, hk.1, hk.2, hl⟩
theorem clean_app {a b : List UInt8} (ha : clean a) (hb : clean b) : clean (a ++ b) := by
  intro x hx; rcases List.mem_append.1 hx with h | h
  · exact ha x h
  · exact hb x h
theorem sep_inj : ∀ {a b c d : List UInt8}, (32 : UInt8) ∉ a → (32 : UInt8) ∉ b → a ++ 32 :: c = b ++ 32 :: d → a = b ∧ c = d
  | [], [], _, _, _, _, h => ⟨rfl, by simpa using h⟩
  | [], y :: b, _, _, _, hb, h => by
    simp at h; exact absurd h.1 (by intro e; exact hb (by simp [e]))
  | x :: a, [], _, _, ha, _, h => by
    simp at h; exact absurd h.1 (by intro e; exact ha (by simp [e]))
  | x :: a, y :: b, _, _, ha, hb, h => by
    simp at h; obtain ⟨h1, h2⟩ := sep_inj (fun hh => ha (by simp [hh])) (fun hh => hb (by simp [hh])) h.2; exact ⟨by rw [h.1, h1], h2⟩
theorem tok_no32 {l : List UInt8} (h : isTok l = true) : (32 : UInt8) ∉ l := by
  intro hm; have := (isTok_parts h).1 32 hm; revert this; decide
theorem tgt_no {l : List UInt8} (h : isTgt l = true) : (∀ b ∈ l, 33 ≤ b.toNat ∧ b.toNat ≤ 126) ∧ l ≠ [] := by
  unfold isTgt at h; simp [tgtB] at h; exact ⟨h.1, h.2⟩
theorem cut_parts {l : List UInt8} {k : Nat} (h : Lib.indexByte l 32 = (k : Nat)) : l = l.take k ++ 32 :: l.drop (k + 1) := by
  have hk := (Lib.indexByte_some h).1; obtain ⟨h1, h2⟩ := List.getElem?_eq_some_iff.1 hk; have := List.drop_eq_getElem_cons h1; rw [h2] at this; rw [← this, List.take_append_drop]
theorem ask_read {m t : List UInt8} (h : (lnM (askT m t)).s = 200) : lnM (askT m t) = ⟨m, t, 1, 200⟩ ∧ isTok m = true ∧ isTgt t = true := by
  have hbad : (lnBad).s ≠ 200 := by decide
  have hdef : askT m t = (m ++ 32 :: t) ++ 32 :: protB := by unfold askT; simp
  have hge := Lib.indexByte_ge (askT m t) 32; by_cases hk : Lib.indexByte (askT m t) 32 = -1
  · rw [ln_k hk] at h; exact absurd h hbad
  obtain ⟨k, hk'⟩ : ∃ k : Nat, Lib.indexByte (askT m t) 32 = k := ⟨(Lib.indexByte (askT m t) 32).toNat, by omega⟩
  cases ht : isTok ((askT m t).take k) with
  | false => rw [ln_tok hk' ht] at h; exact absurd h hbad
  | true =>
  have hp1 := cut_parts hk'; have hge2 := Lib.indexByte_ge ((askT m t).drop (k + 1)) 32; by_cases hn : Lib.indexByte ((askT m t).drop (k + 1)) 32 = -1
  · rw [ln_n hk' hn] at h; exact absurd h hbad
  obtain ⟨n, hn'⟩ : ∃ n : Nat, Lib.indexByte ((askT m t).drop (k + 1)) 32 = n := ⟨(Lib.indexByte ((askT m t).drop (k + 1)) 32).toNat, by omega⟩
  cases hg : isTgt (((askT m t).drop (k + 1)).take n) with
  | false => rw [ln_tgt hk' hn' hg] at h; exact absurd h hbad
  | true =>
  have hp2 := cut_parts hn'; have hall := ln_all hk' hn' ht hg; by_cases hl : (((askT m t).drop (k + 1)).drop (n + 1)).length ≠ 8
  · rw [ln_min hk' hn' (min_len hl)] at h; exact absurd h hbad
  have hl8 : (((askT m t).drop (k + 1)).drop (n + 1)).length = 8 := by omega
  rw [hp2] at hp1; rw [hall] at h ⊢; generalize ((askT m t).drop (k + 1)).drop (n + 1) = last at *; generalize ((askT m t).drop (k + 1)).take n = b at *; generalize (askT m t).take k = a at *; have he : (m ++ 32 :: t) ++ 32 :: protB = (a ++ 32 :: b) ++ 32 :: last := by rw [← hdef, hp1]; simp
  obtain ⟨e1, e2⟩ := List.append_inj' he (by simp [protB, hl8]); have e3 : protB = last := by simpa using e2
  have na := tok_no32 ht; have nb : (32 : UInt8) ∉ b := fun hb => by have := (tgt_no hg).1 32 hb; revert this; decide
  have hc := congrArg (List.count (32 : UInt8)) e1; rw [List.count_append, List.count_append, List.count_cons_self, List.count_cons_self, List.count_eq_zero.2 na, List.count_eq_zero.2 nb] at hc; have nm : (32 : UInt8) ∉ m := List.count_eq_zero.1 (by omega); obtain ⟨f1, f2⟩ := sep_inj nm na e1; subst f1 f2 e3; have hs : minS protB = 200 := by decide
  rw [if_pos hs]; exact ⟨by rw [show minV protB = 1 from by decide], ht, hg⟩
theorem askE_read {m t : List UInt8} {L : List Fld} (more : List UInt8) (h : askE m t L = 0) : splitM (askS m t L ++ more) = ⟨askT m t, L, (askS m t L).length, 0⟩ ∧ (askS m t L).length ≤ 4096 ∧ (askT m t).length ≤ 1024 ∧ lnM (askT m t) = ⟨m, t, 1, 200⟩ := by
  cases hs : askOk m t with
  | false => rw [(ask_no (L := L) hs).1] at h; simp at h
  | true =>
    obtain ⟨h1, h2⟩ := ask_yes (L := L) hs; rw [h1] at h; obtain ⟨h3, h4, h5, h6⟩ := laid_ok h; unfold askOk at hs; simp at hs; obtain ⟨g1, g2, g3⟩ := ask_read hs.1; rw [h2, h3]
    have hc : clean (askT m t) := by
      have hm : clean m := fun b hb => ⟨(tchar_clean ((isTok_parts g2).1 b hb)).1, (tchar_clean ((isTok_parts g2).1 b hb)).2.1⟩
      have ht : clean t := by
        intro b hb; have := (tgt_no g3).1 b hb; refine ⟨?_, ?_⟩ <;> (rintro rfl; revert this; decide)
      have hp : clean protB := by intro x hx; revert x; decide
      have h32 : clean [32] := by intro x hx; revert x; decide
      unfold askT; exact clean_app (clean_app (clean_app (clean_app hm h32) ht) h32) hp
    exact ⟨split_head _ L more hc (by unfold askT; simp) hs.2 h5 h4 h6, h6, hs.2, g1⟩
set_option maxRecDepth 100000 in
set_option maxHeartbeats 3000000 in
theorem next_neg {B p : Nat} {X R : List Nat} {I : InS} {w : World} (h : It B w p X R I) (hm : ML w) (hB : B ≤ w.heap.size) (_hbig : 1 < B) (hok : I.ok) (hs0 : ¬ I.st = 0) :
    Calls Tryz.prog 35 #[.pointer (some ⟨p, 0, none⟩)] w (NextOut B w p X R (nextI I)) := by
  have hst := next_hst hok; have kA := (Keep.refl [] w).alloc (.cells reqZ.toArray 73); have bA := Blk.newA w reqZ.toArray 73; have zst := req_st [] [] (v := .slice none 0 0) false rfl; have H := Lib.hid h; generalize hwA : w.alloc (.cells #[.string ⟨#[]⟩, .string ⟨#[]⟩, .slice none 0 0, .bool false] 73) = wA; have hwA' : w.alloc (.cells reqZ.toArray 73) = wA := hwA; have hszA : wA.heap.size = w.heap.size + 1 := by rw [← hwA']; simp
  rw [hwA'] at kA bA; have hA := h.keep0 kA; have NA : NxS B w p X R wA X R I := ⟨hA, kA.mono (by simp), fun x hx => .inl hx, fun x hx => .inl hx, show Blk wA w.heap.size 73 reqZ from bA⟩
  obtain ⟨a0, a1, a3, a5⟩ := hA.at_; have HNA := Lib.hid NA; have MA := Lib.hid (hm.keep kA (by simp)); have ZST := Lib.hid zst; have HW := Lib.hid (inlet_wrong hA); have HFl := Lib.hid (fun s wt X1 R1 J (hh : It B wt p X1 R1 J) => inlet_fail (I := J) s hh); have hBA : B ≤ wA.heap.size := by omega
  have hlen := hok.len; have HOK := Lib.hid hok; have HLO := Lib.hid h.lo; clear h kA bA hA NA hwA' zst hm hok; have hN : nextI I = ⟨I, req0, I.st⟩ := by unfold nextI; rw [if_pos hs0]
  have q1 := (int_ne hs0).2; have HF := Lib.hid (HNA.out.fin0 H.out I.st); have HT := Lib.hid (HNA.out.bk.there' 0 4 (by simp [reqZ, reqC])); have hload := reqZ_back HT.out; have HLd := Lib.hid hload; rw [hN]; clear hs0 hN hload hst; go_enter Tryz.func35, Tryz.ntmps35; go_wp2_with fail; refine HW.out.mono ?_; rintro e w1 ⟨rfl, rfl⟩; clear hwA
  go_wp2_with (first
    | (refine wpList_store_mid rfl 73 (.tmp 2) (.tmp 17) rfl w.heap.size 0 reqZ.toArray (by rfl) (by first | rfl | kernel_rfl) HT.out ZST.out.1 ZST.out.2 ?_
       try simp only [Act.put])
    | fail)
  refine bodyPost_ret (v := .tuple #[.agg reqZ.toArray, .int .i64 I.st]) (by have hl := HLd.out; simp [results, Tryz.results35, asAddr, Result.andThen, hl]) rfl HF.out
set_option maxRecDepth 100000 in
set_option maxHeartbeats 3000000 in
theorem next_wrong {B p : Nat} {X R : List Nat} {I : InS} {w : World} (h : It B w p X R I) (hm : ML w) (hB : B ≤ w.heap.size) (hbig : 1 < B) (hok : I.ok) (hs0 : I.st = 0) (hrq : I.req = none) (hd0 : ¬ (headM I.inp).s = 0) :
    Calls Tryz.prog 35 #[.pointer (some ⟨p, 0, none⟩)] w (NextOut B w p X R (nextI I)) := by
  have hst := next_hst hok; have kA := (Keep.refl [] w).alloc (.cells reqZ.toArray 73); have bA := Blk.newA w reqZ.toArray 73; have zst := req_st [] [] (v := .slice none 0 0) false rfl; have H := Lib.hid h; generalize hwA : w.alloc (.cells #[.string ⟨#[]⟩, .string ⟨#[]⟩, .slice none 0 0, .bool false] 73) = wA; have hwA' : w.alloc (.cells reqZ.toArray 73) = wA := hwA; have hszA : wA.heap.size = w.heap.size + 1 := by rw [← hwA']; simp
  rw [hwA'] at kA bA; have hA := h.keep0 kA; have NA : NxS B w p X R wA X R I := ⟨hA, kA.mono (by simp), fun x hx => .inl hx, fun x hx => .inl hx, show Blk wA w.heap.size 73 reqZ from bA⟩
  obtain ⟨a0, a1, a3, a5⟩ := hA.at_; have HNA := Lib.hid NA; have MA := Lib.hid (hm.keep kA (by simp)); have ZST := Lib.hid zst; have HW := Lib.hid (inlet_wrong hA); have HFl := Lib.hid (fun s wt X1 R1 J (hh : It B wt p X1 R1 J) => inlet_fail (I := J) s hh); have hBA : B ≤ wA.heap.size := by omega
  have hlen := hok.len; have HOK := Lib.hid hok; have HLO := Lib.hid h.lo; clear h kA bA hA NA hwA' zst hm hok; have q1 := (int_eq hs0).2
  have hN : nextI I = if (headM I.inp).s ≠ 0 then ⟨{ I with st := (headM I.inp).s }, req0, (headM I.inp).s⟩
    else if (headM I.inp).got then tailI (headed I (headM I.inp)) (headM I.inp).q else ⟨I, req0, 0⟩ := by unfold nextI; rw [if_neg (by simp [hs0]), hrq]
  have hck := (HOK.out.req hs0 hrq).1; have HH := Lib.hid (inlet_head HNA.out.it MA.out hBA hbig (by omega) hrq hck); have HX2 := Lib.hid (fun c => hst (headed I (headM I.inp)) c (.inr rfl)); have hhd := head_bounds I.inp; have c2 := it_noReq HNA.out.it hrq; generalize headM I.inp = hd at *; obtain ⟨hd1, hd2, hd3, _⟩ := hhd; clear hst; rw [if_pos hd0] at hN; have hgot : hd.got = false := by cases hg : hd.got with | false => rfl | true => exact absurd (hd1 hg) hd0
  have q2 := (int_ne hd0).2; rw [hN]; clear hN hd0 hrq hs0 hck hd1; go_enter Tryz.func35, Tryz.ntmps35; go_wp2_with fail; refine HH.out.mono ?_; rintro e w1 ⟨rfl, _, k1, _⟩; have HN1 := Lib.hid (HNA.out.step H.out (k1 hgot |>.mono (by simp)) (HNA.out.it.keep0 (k1 hgot)) (fun x hx => .inl hx) (fun x hx => .inl hx)); clear k1 hwA; go_wp2_with fail; refine (HFl.out _ _ _ _ _ HN1.out.it).mono ?_; rintro e w2 ⟨rfl, hi2, k2⟩; have HN2 := Lib.hid (HN1.out.step H.out (HN1.out.it.keepX k2) hi2 (fun x hx => .inl hx) (fun x hx => .inl hx)); have HF := Lib.hid (HN2.out.fin0 H.out hd.s); have HT := Lib.hid (HN2.out.bk.there' 0 4 (by simp [reqZ, reqC])); have hload := reqZ_back HT.out; have HLd := Lib.hid hload; clear hi2 k2 hload
  go_wp2_with (first
    | (refine wpList_store_mid rfl 73 (.tmp 2) (.tmp 32) rfl w.heap.size 0 reqZ.toArray (by rfl) (by first | rfl | kernel_rfl) HT.out ZST.out.1 ZST.out.2 ?_
       try simp only [Act.put])
    | fail)
  refine bodyPost_ret (v := .tuple #[.agg reqZ.toArray, .int .i64 hd.s]) (by have hl := HLd.out; simp [results, Tryz.results35, asAddr, Result.andThen, hl]) rfl HF.out
set_option maxRecDepth 100000 in
set_option maxHeartbeats 3000000 in
theorem next_wait {B p : Nat} {X R : List Nat} {I : InS} {w : World} (h : It B w p X R I) (hm : ML w) (hB : B ≤ w.heap.size) (hbig : 1 < B) (hok : I.ok) (hs0 : I.st = 0) (hrq : I.req = none) (hd0 : (headM I.inp).s = 0) (hgot : (headM I.inp).got = false) :
    Calls Tryz.prog 35 #[.pointer (some ⟨p, 0, none⟩)] w (NextOut B w p X R (nextI I)) := by
  have hst := next_hst hok; have kA := (Keep.refl [] w).alloc (.cells reqZ.toArray 73); have bA := Blk.newA w reqZ.toArray 73; have zst := req_st [] [] (v := .slice none 0 0) false rfl; have H := Lib.hid h; generalize hwA : w.alloc (.cells #[.string ⟨#[]⟩, .string ⟨#[]⟩, .slice none 0 0, .bool false] 73) = wA; have hwA' : w.alloc (.cells reqZ.toArray 73) = wA := hwA; have hszA : wA.heap.size = w.heap.size + 1 := by rw [← hwA']; simp
  rw [hwA'] at kA bA; have hA := h.keep0 kA; have NA : NxS B w p X R wA X R I := ⟨hA, kA.mono (by simp), fun x hx => .inl hx, fun x hx => .inl hx, show Blk wA w.heap.size 73 reqZ from bA⟩
  obtain ⟨a0, a1, a3, a5⟩ := hA.at_; have HNA := Lib.hid NA; have MA := Lib.hid (hm.keep kA (by simp)); have ZST := Lib.hid zst; have HW := Lib.hid (inlet_wrong hA); have HFl := Lib.hid (fun s wt X1 R1 J (hh : It B wt p X1 R1 J) => inlet_fail (I := J) s hh); have hBA : B ≤ wA.heap.size := by omega
  have hlen := hok.len; have HOK := Lib.hid hok; have HLO := Lib.hid h.lo; clear h kA bA hA NA hwA' zst hm hok; have q1 := (int_eq hs0).2
  have hN : nextI I = if (headM I.inp).s ≠ 0 then ⟨{ I with st := (headM I.inp).s }, req0, (headM I.inp).s⟩
    else if (headM I.inp).got then tailI (headed I (headM I.inp)) (headM I.inp).q else ⟨I, req0, 0⟩ := by unfold nextI; rw [if_neg (by simp [hs0]), hrq]
  have hck := (HOK.out.req hs0 hrq).1; have HH := Lib.hid (inlet_head HNA.out.it MA.out hBA hbig (by omega) hrq hck); have HX2 := Lib.hid (fun c => hst (headed I (headM I.inp)) c (.inr rfl)); have hhd := head_bounds I.inp; have c2 := it_noReq HNA.out.it hrq; generalize headM I.inp = hd at *; obtain ⟨hd1, hd2, hd3, _⟩ := hhd; clear hst; rw [if_neg (by simp [hd0])] at hN; rw [hgot, if_neg (by simp)] at hN; rw [hN]; rw [hd0] at HH; have HRQ := Lib.hid hrq; clear hN hd0 hrq hs0 hck hd1; go_enter Tryz.func35, Tryz.ntmps35; go_wp2_with fail; refine HH.out.mono ?_; rintro e w1 ⟨rfl, _, k1, _⟩; have HN2 := Lib.hid (HNA.out.step H.out (k1 hgot |>.mono (by simp)) (HNA.out.it.keep0 (k1 hgot)) (fun x hx => .inl hx) (fun x hx => .inl hx)); have c22 := it_noReq HN2.out.it HRQ.out; have HF := Lib.hid (HN2.out.fin0 H.out 0); have HT := Lib.hid (HN2.out.bk.there' 0 4 (by simp [reqZ, reqC])); have hload := reqZ_back HT.out; have HLd := Lib.hid hload; clear k1 hload hwA
  go_wp2_with (first
    | (refine wpList_store_mid rfl 73 (.tmp 2) (.tmp 39) rfl w.heap.size 0 reqZ.toArray (by rfl) (by first | rfl | kernel_rfl) HT.out ZST.out.1 ZST.out.2 ?_
       try simp only [Act.put])
    | fail)
  refine bodyPost_ret (v := .tuple #[.agg reqZ.toArray, .int .i64 0]) (by have hl := HLd.out; simp [results, Tryz.results35, asAddr, Result.andThen, hl]) rfl HF.out
set_option maxRecDepth 100000 in
set_option maxHeartbeats 3000000 in
theorem next_pend {B p : Nat} {X R : List Nat} {I : InS} {w : World} (h : It B w p X R I) (hm : ML w) (hB : B ≤ w.heap.size) (hbig : 1 < B) (hok : I.ok) {q : Req} (hs0 : I.st = 0) (hrq : I.req = some q) :
    Calls Tryz.prog 35 #[.pointer (some ⟨p, 0, none⟩)] w (NextOut B w p X R (nextI I)) := by
  have hst := next_hst hok; have kA := (Keep.refl [] w).alloc (.cells reqZ.toArray 73); have bA := Blk.newA w reqZ.toArray 73; have zst := req_st [] [] (v := .slice none 0 0) false rfl; have H := Lib.hid h; generalize hwA : w.alloc (.cells #[.string ⟨#[]⟩, .string ⟨#[]⟩, .slice none 0 0, .bool false] 73) = wA; have hwA' : w.alloc (.cells reqZ.toArray 73) = wA := hwA; have hszA : wA.heap.size = w.heap.size + 1 := by rw [← hwA']; simp
  rw [hwA'] at kA bA; have hA := h.keep0 kA; have NA : NxS B w p X R wA X R I := ⟨hA, kA.mono (by simp), fun x hx => .inl hx, fun x hx => .inl hx, show Blk wA w.heap.size 73 reqZ from bA⟩
  obtain ⟨a0, a1, a3, a5⟩ := hA.at_; have HNA := Lib.hid NA; have MA := Lib.hid (hm.keep kA (by simp)); have ZST := Lib.hid zst; have HW := Lib.hid (inlet_wrong hA); have HFl := Lib.hid (fun s wt X1 R1 J (hh : It B wt p X1 R1 J) => inlet_fail (I := J) s hh); have hBA : B ≤ wA.heap.size := by omega
  have hlen := hok.len; have HOK := Lib.hid hok; have HLO := Lib.hid h.lo; clear h kA bA hA NA hwA' zst hm hok; have q1 := (int_eq hs0).2; have hN : nextI I = tailI I q := by unfold nextI; rw [if_neg (by simp [hs0]), hrq]
  have HNt := HNA; have MT := MA
  have HOt := Lib.hid (show I.inp.length + I.held ≤ 65536 ∧ I.skip ≤ 65536 ∧ (∀ c, I.chk = some c → (c.err = 0 → c.ok) ∧ c.most = 4096 ∧ c.inp.length + c.dat.length ≤ 65536 ∧ (addC c I.inp).st ≤ 4) ∧ I.req = some q from
    ⟨by omega, by have := HOK.out.skp; omega, fun c hc => ⟨(hst I c (.inl rfl) hc).2, (HOK.out.chk c hc).2.1, by have := (HOK.out.chk c hc).2.2.1; omega, (hst I c (.inl rfl) hc).1⟩, hrq⟩)
  obtain ⟨rb, ra, rl, rc, c2, hjunk⟩ := it_req HNA.out.it hrq; clear hjunk
  rw [hN]; clear hrq hN hst hs0; go_enter Tryz.func35, Tryz.ntmps35; go_wp2_with fail; have HBd := Lib.hid (inlet_body HNt.out.it MT.out hBA hbig HOt.out.1 HOt.out.2.1 HOt.out.2.2.1); have hbr := body_req I
  have hT : tailI I q = if (bodyB I).s ≠ 0 then ⟨{ (bodyB I).p with st := (bodyB I).s }, req0, (bodyB I).s⟩
    else if (bodyB I).whole then ⟨{ (bodyB I).p with req := none, held := 0 }, q, 200⟩ else ⟨(bodyB I).p, req0, 0⟩ := rfl
  generalize bodyB I = bd at *; obtain ⟨bp, bwh, bs⟩ := bd; dsimp only at HBd hbr hT; have hbq : bp.req = some q := hbr.1.trans HOt.out.2.2.2; clear hbr c2; refine HBd.out.mono ?_; rintro e w5 ⟨rfl, k5, X5, hi5, n5⟩; have HN5 := Lib.hid (HNt.out.step H.out k5 hi5 n5 (fun x hx => .inl hx)); clear k5 hi5 n5 HBd; by_cases hs5 : bs = 0
  case neg =>
    rw [if_pos hs5] at hT; have q5 := (int_ne hs5).2; clear hs5; go_wp2_with fail; refine (HFl.out _ _ _ _ _ HN5.out.it).mono ?_; rintro e w6 ⟨rfl, hi2, k2⟩; have HN2 := Lib.hid (HN5.out.step H.out (HN5.out.it.keepX k2) hi2 (fun x hx => .inl hx) (fun x hx => .inl hx)); have HF := Lib.hid ((HN2.out.fin0 H.out bs).of hT); have HT := Lib.hid (HN2.out.bk.there' 0 4 (by simp [reqZ, reqC])); have hload := reqZ_back HT.out; have HLd := Lib.hid hload; clear hi2 k2 hload hT
    go_wp2_with (first | ((with_reducible refine gS 2 51 ?_); refine wpList_store_mid rfl 73 (.tmp 2) (.tmp 51) rfl w.heap.size 0 reqZ.toArray (by rfl) (by first | rfl | kernel_rfl) HT.out ZST.out.1 ZST.out.2 ?_; try simp only [Act.put]) | fail); refine bodyPost_ret (v := .tuple #[.agg reqZ.toArray, .int .i64 bs]) (by have hl := HLd.out; simp [results, Tryz.results35, asAddr, Result.andThen, hl]) rfl HF.out
  rw [if_neg (by simp [hs5])] at hT; subst hs5
  cases bwh with
  | false =>
    rw [if_neg (by simp)] at hT; have HF := Lib.hid ((HN5.out.fin0 H.out 0).of hT); have HT := Lib.hid (HN5.out.bk.there' 0 4 (by simp [reqZ, reqC])); have hload := reqZ_back HT.out; have HLd := Lib.hid hload; clear hT hload
    go_wp2_with (first | ((with_reducible refine gS 2 56 ?_); refine wpList_store_mid rfl 73 (.tmp 2) (.tmp 56) rfl w.heap.size 0 reqZ.toArray (by rfl) (by first | rfl | kernel_rfl) HT.out ZST.out.1 ZST.out.2 ?_; try simp only [Act.put]) | fail); refine bodyPost_ret (v := .tuple #[.agg reqZ.toArray, .int .i64 0]) (by have hl := HLd.out; simp [results, Tryz.results35, asAddr, Result.andThen, hl]) rfl HF.out
  | true =>
    rw [if_pos rfl] at hT; obtain ⟨rb2, sa, sl, sc, c2, hq2, ho2, hg2, hrb2⟩ := it_req HN5.out.it hbq; have hoff := HN5.out.off H.out; have hbk := HN5.out.bk; have kW := (Keep.refl [] w5).alloc (.cells (reqC q.m q.t (.slice sa sl sc) q.cl).toArray 73); have nW := Blk.newA w5 (reqC q.m q.t (.slice sa sl sc) q.cl).toArray 73; have hp5 := HN5.out.it.lt; have RNG := Lib.hid hq2.range'; generalize hwW : w5.alloc (.cells (reqC q.m q.t (.slice sa sl sc) q.cl).toArray 73) = wW at kW nW; have iW := HN5.out.it.keep0 kW; have d2 : wW.cell? ⟨p, 2, none⟩ = some (.pointer (some ⟨rb2, 0, none⟩)) := kW.load c2; have d1 := iW.at_.2.1; have g1 := iW.free 1; have g2 := iW.free 2; have kP := ((Keep.refl [p] wW).setCell ⟨p, 2, none⟩ (.pointer none) (by simp)).setCell ⟨p, 1, none⟩ (.int .i64 0) (by simp); have hnep : w5.heap.size ≠ p := by omega
    have nP := kP.blk (show Blk wW w5.heap.size 73 (reqC q.m q.t (.slice sa sl sc) q.cl) from nW) (by simpa using hnep); have iP := it_unreq iW; have HNP := Lib.hid ((HN5.out.step H.out (kW.mono (S' := X5) (by simp)) iW (fun x hx => .inl hx) (fun x hx => .inl hx)).step H.out (iW.keepX kP) iP (fun x hx => .inl hx) (by simp)); have HT := Lib.hid (HNP.out.bk.there' 0 4 (by simp [reqZ, reqC])); have hload := req_back (m := q.m) (t := q.t) (v := .slice sa sl sc) (cl := q.cl) HT.out; have HLd := Lib.hid hload; have OP := ((ho2.keep0 kW).keep kP (fun g hg => by simp; rintro rfl; exact (HN5.out.it.ro _ (hg2 _ hg)).2.2 HN5.out.it.mem))
    have HF := Lib.hid ((HNP.out.fin H.out q (.slice sa sl sc) 200 OP (fun g hg => ⟨HN5.out.nr g (hg2 g hg), (HN5.out.it.ro g (hg2 g hg)).2.2⟩)).of hT); have HS1 := Lib.hid (reqC_one q.m q.t (v := .slice sa sl sc) q.cl rfl); have ST := Lib.hid (req_st q.m q.t (v := .slice sa sl sc) q.cl rfl); have RP := Lib.hid nP.range'; clear hT hload hq2 ho2 hg2 hrb2 hoff hbk kW nW iW kP nP iP OP hp5
    go_wp2_with (first | ((with_reducible refine gM 61 ?_); refine wpList_load_mid rfl 73 (.tmp 61) rfl rb2 0 (by rfl) (reqC q.m q.t (.slice sa sl sc) q.cl) _ RNG.out Tryz.underlying73 rfl req_size ?_; try simp only [Act.put, sqA, sqB, sqC]) | ((with_reducible refine gS 7 62 ?_); refine wpList_store_fresh rfl 73 (.tmp 7) (.tmp 62) rfl _ (reqC q.m q.t (.slice sa sl sc) q.cl) (by rfl) (by rfl) req_size (by rfl) HS1.out ?_; rw [hwW]; try simp only [Act.put]) | ((with_reducible refine gM 7 ?_); refine wpList_load_mid rfl 73 (.tmp 7) rfl w5.heap.size 0 (by rfl) (reqC q.m q.t (.slice sa sl sc) q.cl) _ RP.out Tryz.underlying73 rfl req_size ?_; try simp only [Act.put, sqA, sqB, sqC]) | ((with_reducible refine gS 2 69 ?_); refine wpList_store_mid rfl 73 (.tmp 2) (.tmp 69) rfl w.heap.size 0 (reqC q.m q.t (.slice sa sl sc) q.cl).toArray (by rfl) (by first | rfl | kernel_rfl) HT.out ST.out.1 ST.out.2 ?_; try simp only [Act.put]) | fail); refine bodyPost_ret (v := .tuple #[.agg (reqC q.m q.t (.slice sa sl sc) q.cl).toArray, .int .i64 200]) (by have hl := HLd.out; simp [results, Tryz.results35, asAddr, Result.andThen, hl]) rfl HF.out
end Go.Proofs.YtlhnjkekjbbhcaaGreatDoor
