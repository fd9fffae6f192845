/- Parts of the proof of ErrandAsks, in order. No conditions but those that each theorem states. -/
import Derived.Test.YtlhnjkekjbbhcaaGreatDoorYErrandAsks0
import Derived.Lib.SlBytesConst
import Derived.Lib.LaidTab
import Derived.Lib.ItoaNum
import Derived.Lib.ItoaLen
import Derived.Sort.Grow
import Derived.DeepKeys4
import Derived.OpenShut
import Derived.Test.YtlhnjkekjbbhcaaGreatDoorYErrandAsks45
set_option linter.unusedSimpArgs false
set_option linter.unusedVariables false
namespace Go.Proofs.YtlhnjkekjbbhcaaGreatDoor
open Go.RowKit Go.Shelf
set_option maxRecDepth 100000 in
set_option maxHeartbeats 3000000 in
theorem next_got {B p : Nat} {X R : List Nat} {I : InS} {w : World} (h : It B w p X R I) (hm : ML w) (hB : B ≤ w.heap.size) (hbig : 1 < B) (hok : I.ok) (hs0 : I.st = 0) (hrq : I.req = none) (hd0 : (headM I.inp).s = 0) (hgot : (headM I.inp).got = true) :
    Calls Tryz.prog 35 #[.pointer (some ⟨p, 0, none⟩)] w (NextOut B w p X R (nextI I)) := by
  have hst := next_hst hok; have kA := (Keep.refl [] w).alloc (.cells reqZ.toArray 73); have bA := Blk.newA w reqZ.toArray 73; have zst := req_st [] [] (v := .slice none 0 0) false rfl; have H := Lib.hid h; generalize hwA : w.alloc (.cells #[.string ⟨#[]⟩, .string ⟨#[]⟩, .slice none 0 0, .bool false] 73) = wA; have hwA' : w.alloc (.cells reqZ.toArray 73) = wA := hwA; have hszA : wA.heap.size = w.heap.size + 1 := by rw [← hwA']; simp
  rw [hwA'] at kA bA; have hA := h.keep0 kA; have NA : NxS B w p X R wA X R I := ⟨hA, kA.mono (by simp), fun x hx => .inl hx, fun x hx => .inl hx, show Blk wA w.heap.size 73 reqZ from bA⟩
  obtain ⟨a0, a1, a3, a5⟩ := hA.at_; have HNA := Lib.hid NA; have MA := Lib.hid (hm.keep kA (by simp)); have ZST := Lib.hid zst; have HW := Lib.hid (inlet_wrong hA); have HFl := Lib.hid (fun s wt X1 R1 J (hh : It B wt p X1 R1 J) => inlet_fail (I := J) s hh); have hBA : B ≤ wA.heap.size := by omega
  have hlen := hok.len; have HOK := Lib.hid hok; have HLO := Lib.hid h.lo; clear h kA bA hA NA hwA' zst hm hok; have q1 := (int_eq hs0).2
  have hN : nextI I = if (headM I.inp).s ≠ 0 then ⟨{ I with st := (headM I.inp).s }, req0, (headM I.inp).s⟩
    else if (headM I.inp).got then tailI (headed I (headM I.inp)) (headM I.inp).q else ⟨I, req0, 0⟩ := by unfold nextI; rw [if_neg (by simp [hs0]), hrq]
  have hck := (HOK.out.req hs0 hrq).1; have HH := Lib.hid (inlet_head HNA.out.it MA.out hBA hbig (by omega) hrq hck); have HX2 := Lib.hid (fun c => hst (headed I (headM I.inp)) c (.inr rfl)); have hhd := head_bounds I.inp; have c2 := it_noReq HNA.out.it hrq; generalize headM I.inp = hd at *; obtain ⟨hd1, hd2, hd3, _⟩ := hhd; clear hst; rw [if_neg (by simp [hd0])] at hN; rw [hgot, if_pos rfl] at hN; rw [hN]; rw [hd0] at HH
  have HOt' := Lib.hid (show (headed I hd).inp.length + (headed I hd).held ≤ 65536 ∧ (headed I hd).skip ≤ 65536 ∧ (∀ c, (headed I hd).chk = some c → (c.err = 0 → c.ok) ∧ c.most = 4096 ∧ c.inp.length + c.dat.length ≤ 65536 ∧ (addC c (headed I hd).inp).st ≤ 4) ∧ (headed I hd).req = some hd.q from
    ⟨by show (I.inp.drop hd.n).length + hd.n ≤ 65536; have := hd2 hgot; rw [List.length_drop]; omega, by have := hd3 hgot; show hd.skip ≤ 65536; omega, fun c hc => (by
      have h1 := HX2.out c hc; have h2 : (if hd.ch then some (ck0 4096) else I.chk) = some c := hc; rw [hck] at h2
      split at h2
      · cases h2; exact ⟨h1.2, rfl, by simp [ck0], h1.1⟩
      · cases h2), rfl⟩)
  clear hN hd0 hrq hs0 hck hd1 hd2 hd3 HX2; generalize headed I hd = J at *; generalize hd.q = q at *; go_enter Tryz.func35, Tryz.ntmps35; go_wp2_with fail; refine HH.out.mono ?_; rintro e w1 ⟨rfl, k1, _, hx1⟩; obtain ⟨X1, R1, hi1, n1, r1⟩ := hx1 hgot; have HN1 := Lib.hid (HNA.out.step H.out (HNA.out.it.keepX k1) hi1 n1 (fun x hx => .inr (r1 x hx))); have M1 := Lib.hid (MA.out.keepB hbig (HNA.out.it.keepX k1) (fun x hx => (HLO.out x hx).1)); have hsz1 : B ≤ w1.heap.size := Nat.le_trans hBA k1.size; clear k1 hx1 hi1 n1 r1 c2 a0 a1 a3 a5 q1 hwA HH; obtain ⟨rb, ra, rl, rc, c2, hjunk⟩ := it_req HN1.out.it HOt'.out.2.2.2; clear hjunk
  go_wp2_with fail; have HBd := Lib.hid (inlet_body HN1.out.it M1.out hsz1 hbig HOt'.out.1 HOt'.out.2.1 HOt'.out.2.2.1); have hbr := body_req J
  have hT : tailI J q = if (bodyB J).s ≠ 0 then ⟨{ (bodyB J).p with st := (bodyB J).s }, req0, (bodyB J).s⟩
    else if (bodyB J).whole then ⟨{ (bodyB J).p with req := none, held := 0 }, q, 200⟩ else ⟨(bodyB J).p, req0, 0⟩ := rfl
  generalize bodyB J = bd at *; obtain ⟨bp, bwh, bs⟩ := bd; dsimp only at HBd hbr hT; have hbq : bp.req = some q := hbr.1.trans HOt'.out.2.2.2; clear hbr c2; refine HBd.out.mono ?_; rintro e w5 ⟨rfl, k5, X5, hi5, n5⟩; have HN5 := Lib.hid (HN1.out.step H.out k5 hi5 n5 (fun x hx => .inl hx)); clear k5 hi5 n5 HBd; by_cases hs5 : bs = 0
  case neg =>
    rw [if_pos hs5] at hT; have q5 := (int_ne hs5).2; clear hs5; go_wp2_with fail; refine (HFl.out _ _ _ _ _ HN5.out.it).mono ?_; rintro e w6 ⟨rfl, hi2, k2⟩; have HN2 := Lib.hid (HN5.out.step H.out (HN5.out.it.keepX k2) hi2 (fun x hx => .inl hx) (fun x hx => .inl hx)); have HF := Lib.hid ((HN2.out.fin0 H.out bs).of hT); have HT := Lib.hid (HN2.out.bk.there' 0 4 (by simp [reqZ, reqC])); have hload := reqZ_back HT.out; have HLd := Lib.hid hload; clear hi2 k2 hload hT
    go_wp2_with (first | ((with_reducible refine gS 2 51 ?_); refine wpList_store_mid rfl 73 (.tmp 2) (.tmp 51) rfl w.heap.size 0 reqZ.toArray (by rfl) (by first | rfl | kernel_rfl) HT.out ZST.out.1 ZST.out.2 ?_; try simp only [Act.put]) | fail); refine bodyPost_ret (v := .tuple #[.agg reqZ.toArray, .int .i64 bs]) (by have hl := HLd.out; simp [results, Tryz.results35, asAddr, Result.andThen, hl]) rfl HF.out
  rw [if_neg (by simp [hs5])] at hT; subst hs5
  cases bwh with
  | false =>
    rw [if_neg (by simp)] at hT; have HF := Lib.hid ((HN5.out.fin0 H.out 0).of hT); have HT := Lib.hid (HN5.out.bk.there' 0 4 (by simp [reqZ, reqC])); have hload := reqZ_back HT.out; have HLd := Lib.hid hload; clear hT hload
    go_wp2_with (first | ((with_reducible refine gS 2 56 ?_); refine wpList_store_mid rfl 73 (.tmp 2) (.tmp 56) rfl w.heap.size 0 reqZ.toArray (by rfl) (by first | rfl | kernel_rfl) HT.out ZST.out.1 ZST.out.2 ?_; try simp only [Act.put]) | fail); refine bodyPost_ret (v := .tuple #[.agg reqZ.toArray, .int .i64 0]) (by have hl := HLd.out; simp [results, Tryz.results35, asAddr, Result.andThen, hl]) rfl HF.out
  | true =>
    rw [if_pos rfl] at hT; obtain ⟨rb2, sa, sl, sc, c2, hq2, ho2, hg2, hrb2⟩ := it_req HN5.out.it hbq; have hoff := HN5.out.off H.out; have hbk := HN5.out.bk; have kW := (Keep.refl [] w5).alloc (.cells (reqC q.m q.t (.slice sa sl sc) q.cl).toArray 73); have nW := Blk.newA w5 (reqC q.m q.t (.slice sa sl sc) q.cl).toArray 73; have hp5 := HN5.out.it.lt; have RNG := Lib.hid hq2.range'; generalize hwW : w5.alloc (.cells (reqC q.m q.t (.slice sa sl sc) q.cl).toArray 73) = wW at kW nW; have iW := HN5.out.it.keep0 kW; have d2 : wW.cell? ⟨p, 2, none⟩ = some (.pointer (some ⟨rb2, 0, none⟩)) := kW.load c2; have d1 := iW.at_.2.1; have g1 := iW.free 1; have g2 := iW.free 2; have kP := ((Keep.refl [p] wW).setCell ⟨p, 2, none⟩ (.pointer none) (by simp)).setCell ⟨p, 1, none⟩ (.int .i64 0) (by simp); have hnep : w5.heap.size ≠ p := by omega
    have nP := kP.blk (show Blk wW w5.heap.size 73 (reqC q.m q.t (.slice sa sl sc) q.cl) from nW) (by simpa using hnep); have iP := it_unreq iW; have HNP := Lib.hid ((HN5.out.step H.out (kW.mono (S' := X5) (by simp)) iW (fun x hx => .inl hx) (fun x hx => .inl hx)).step H.out (iW.keepX kP) iP (fun x hx => .inl hx) (by simp)); have HT := Lib.hid (HNP.out.bk.there' 0 4 (by simp [reqZ, reqC])); have hload := req_back (m := q.m) (t := q.t) (v := .slice sa sl sc) (cl := q.cl) HT.out; have HLd := Lib.hid hload; have OP := ((ho2.keep0 kW).keep kP (fun g hg => by simp; rintro rfl; exact (HN5.out.it.ro _ (hg2 _ hg)).2.2 HN5.out.it.mem))
    have HF := Lib.hid ((HNP.out.fin H.out q (.slice sa sl sc) 200 OP (fun g hg => ⟨HN5.out.nr g (hg2 g hg), (HN5.out.it.ro g (hg2 g hg)).2.2⟩)).of hT); have HS1 := Lib.hid (reqC_one q.m q.t (v := .slice sa sl sc) q.cl rfl); have ST := Lib.hid (req_st q.m q.t (v := .slice sa sl sc) q.cl rfl); have RP := Lib.hid nP.range'; clear hT hload hq2 ho2 hg2 hrb2 hoff hbk kW nW iW kP nP iP OP hp5
    go_wp2_with (first | ((with_reducible refine gM 61 ?_); refine wpList_load_mid rfl 73 (.tmp 61) rfl rb2 0 (by rfl) (reqC q.m q.t (.slice sa sl sc) q.cl) _ RNG.out Tryz.underlying73 rfl req_size ?_; try simp only [Act.put, sqA, sqB, sqC]) | ((with_reducible refine gS 7 62 ?_); refine wpList_store_fresh rfl 73 (.tmp 7) (.tmp 62) rfl _ (reqC q.m q.t (.slice sa sl sc) q.cl) (by rfl) (by rfl) req_size (by rfl) HS1.out ?_; rw [hwW]; try simp only [Act.put]) | ((with_reducible refine gM 7 ?_); refine wpList_load_mid rfl 73 (.tmp 7) rfl w5.heap.size 0 (by rfl) (reqC q.m q.t (.slice sa sl sc) q.cl) _ RP.out Tryz.underlying73 rfl req_size ?_; try simp only [Act.put, sqA, sqB, sqC]) | ((with_reducible refine gS 2 69 ?_); refine wpList_store_mid rfl 73 (.tmp 2) (.tmp 69) rfl w.heap.size 0 (reqC q.m q.t (.slice sa sl sc) q.cl).toArray (by rfl) (by first | rfl | kernel_rfl) HT.out ST.out.1 ST.out.2 ?_; try simp only [Act.put]) | fail); refine bodyPost_ret (v := .tuple #[.agg (reqC q.m q.t (.slice sa sl sc) q.cl).toArray, .int .i64 200]) (by have hl := HLd.out; simp [results, Tryz.results35, asAddr, Result.andThen, hl]) rfl HF.out
end Go.Proofs.YtlhnjkekjbbhcaaGreatDoor
namespace Go.Proofs.YtlhnjkekjbbhcaaGreatDoor
theorem inlet_Next {B p : Nat} {X R : List Nat} {I : InS} {w : World} (h : It B w p X R I) (hm : ML w) (hB : B ≤ w.heap.size) (hbig : 1 < B) (hok : I.ok) :
    Calls Tryz.prog 35 #[.pointer (some ⟨p, 0, none⟩)] w (NextOut B w p X R (nextI I)) := by
  by_cases hs0 : I.st = 0
  · cases hrq : I.req with
    | some q => exact next_pend h hm hB hbig hok hs0 hrq
    | none =>
      by_cases hd0 : (headM I.inp).s = 0
      · cases hgot : (headM I.inp).got with
        | true => exact next_got h hm hB hbig hok hs0 hrq hd0 hgot
        | false => exact next_wait h hm hB hbig hok hs0 hrq hd0 hgot
      · exact next_wrong h hm hB hbig hok hs0 hrq hd0
  · exact next_neg h hm hB hbig hok hs0
end Go.Proofs.YtlhnjkekjbbhcaaGreatDoor
namespace Go.Proofs.YtlhnjkekjbbhcaaGreatDoor
open Go.RowKit Go.Shelf Go.ChangeShapes Go.WideShapes Go.ChangeAt
theorem ask_next {m t : List UInt8} {K : List Fld} (h : askE m t K = 0) (h1 : getN K nHost = 1) (h2 : getN K nCL = 0) (h3 : getN K nTE = 0) :
    nextI { in0 with inp := askS m t K } = ⟨in0, ⟨m, t, K, closesM K 1⟩, 200⟩ := by
  obtain ⟨r1, r2, r3, r4⟩ := askE_read [] h; rw [List.append_nil] at r1
  have hf : frameM K 4096 = ⟨-1, false, 0⟩ := by
    unfold frameM; rw [h2, h3, if_neg (by omega), if_neg (by omega), if_pos rfl]
  have hH : headM (askS m t K) = ⟨0, true, (askS m t K).length, ⟨m, t, K, closesM K 1⟩, 0, false⟩ := by
    unfold headM; rw [r1]; dsimp only; rw [if_neg (by simp), r4]; dsimp only; rw [if_neg (by simp), if_neg (by rw [h1]; omega), hf, if_neg (by simp)]; rfl
  rw [next_none rfl rfl, show ({ in0 with inp := askS m t K } : InS).inp = askS m t K from rfl, hH]; dsimp only; rw [if_neg (by simp), if_pos rfl]
  have hd : headed { in0 with inp := askS m t K } ⟨0, true, (askS m t K).length, ⟨m, t, K, closesM K 1⟩, 0, false⟩ = ⟨[], (askS m t K).length, some ⟨m, t, K, closesM K 1⟩, 0, none, 0⟩ := by
    refine inS_ext ?_ rfl rfl rfl rfl rfl; show (askS m t K).drop (askS m t K).length = []; rw [List.drop_length]
  rw [hd, tail_none _ rfl (by simp)]; exact nxR_ext (inS_ext rfl rfl rfl rfl rfl rfl) rfl rfl
end Go.Proofs.YtlhnjkekjbbhcaaGreatDoor
namespace Go.Proofs.YtlhnjkekjbbhcaaGreatDoor
open Go.RowKit Go.Shelf
theorem bd_an0 : Tryz.prog.built 30 [] = some ansZ.toArray := by kernel_rfl
theorem anZ_ok (w : World) : AnOk w ans0 nilS := ⟨.inl ⟨Option.none, 0, rfl, Nat.zero_le _, rfl⟩, by simp [ans0], by unfold in64; exact ⟨by decide, by decide⟩, by unfold in64; exact ⟨by decide, by decide⟩⟩
end Go.Proofs.YtlhnjkekjbbhcaaGreatDoor
