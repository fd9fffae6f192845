/- Parts of the proof, in order. No conditions but those that each theorem states. -/
import Derived.Test.YtpimfoohpfkciaaDoorZB3
import Derived.Deep.LoopGhost
import Derived.DeepKeys4
import Derived.Great.Walk
import Derived.Deep.DeepHandedRow
/- Layer 12: Next, when nothing more can come, or nothing has come whole. No conditions but on lengths. -/
namespace Go.Proofs.YtpimfoohpfkciaaDoor
open Go.RowKit Go.Shelf


set_option maxRecDepth 100000 in
set_option maxHeartbeats 3000000 in
theorem next_neg {B p : Nat} {X R : List Nat} {I : InS} {w : World} (h : It B w p X R I) (hm : ML w) (hB : B ≤ w.heap.size) (_hbig : 0 < B) (hok : I.ok) (hs0 : ¬ I.st = 0) :
    Calls Tryd.prog 12 #[.pointer (some ⟨p, 0, none⟩)] w (NextOut B w p X R (nextI I)) := by
  have hst := next_hst hok
  have kA := (Keep.refl [] w).alloc (.cells reqZ.toArray 37)
  have bA := Blk.newA w reqZ.toArray 37
  have zst := req_st [] [] (v := .slice none 0 0) false rfl
  have H := Lib.hid h
  generalize hwA : w.alloc (.cells #[.string ⟨#[]⟩, .string ⟨#[]⟩, .slice none 0 0, .bool false] 37) = wA
  have hwA' : w.alloc (.cells reqZ.toArray 37) = wA := hwA
  have hszA : wA.heap.size = w.heap.size + 1 := by rw [← hwA']; simp
  rw [hwA'] at kA bA
  have hA := h.keep0 kA
  have NA : NxS B w p X R wA X R I := ⟨hA, kA.mono (by simp), fun x hx => .inl hx, fun x hx => .inl hx, show Blk wA w.heap.size 37 reqZ from bA⟩
  obtain ⟨a0, a1, a3, a5⟩ := hA.at_
  have HNA := Lib.hid NA
  have MA := Lib.hid (hm.keep kA (by simp))
  have ZST := Lib.hid zst
  have HW := Lib.hid (inlet_wrong hA)
  have HFl := Lib.hid (fun s wt X1 R1 J (hh : It B wt p X1 R1 J) => inlet_fail (I := J) s hh)
  have hBA : B ≤ wA.heap.size := by omega
  have hlen := hok.len
  have HOK := Lib.hid hok
  have HLO := Lib.hid h.lo
  clear h kA bA hA NA hwA' zst hm hok
  have hN : nextI I = ⟨I, req0, I.st⟩ := by unfold nextI; rw [if_pos hs0]
  have q1 := (int_ne hs0).2
  have HF := Lib.hid (HNA.out.fin0 H.out I.st)
  have HT := Lib.hid (HNA.out.bk.there' 0 4 (by simp [reqZ, reqC]))
  have hload := reqZ_back HT.out
  have HLd := Lib.hid hload
  rw [hN]
  clear hs0 hN hload hst
  go_enter Tryd.func12, Tryd.ntmps12
  go_wp2_with fail
  refine HW.out.mono ?_
  rintro e w1 ⟨rfl, rfl⟩
  clear hwA
  go_wp2_with (first
    | (refine wpList_store_mid rfl 37 (.tmp 2) (.tmp 17) rfl w.heap.size 0 reqZ.toArray (by rfl) (by first | rfl | kernel_rfl) HT.out ZST.out.1 ZST.out.2 ?_
       try simp only [Act.put])
    | fail)
  refine bodyPost_ret (v := .tuple #[.agg reqZ.toArray, .int .i64 I.st]) (by have hl := HLd.out; simp [results, Tryd.results12, asAddr, Result.andThen, hl]) rfl HF.out
set_option maxRecDepth 100000 in
set_option maxHeartbeats 3000000 in
theorem next_wrong {B p : Nat} {X R : List Nat} {I : InS} {w : World} (h : It B w p X R I) (hm : ML w) (hB : B ≤ w.heap.size) (hbig : 0 < B) (hok : I.ok) (hs0 : I.st = 0) (hrq : I.req = none) (hd0 : ¬ (headM I.inp).s = 0) :
    Calls Tryd.prog 12 #[.pointer (some ⟨p, 0, none⟩)] w (NextOut B w p X R (nextI I)) := by
  have hst := next_hst hok
  have kA := (Keep.refl [] w).alloc (.cells reqZ.toArray 37)
  have bA := Blk.newA w reqZ.toArray 37
  have zst := req_st [] [] (v := .slice none 0 0) false rfl
  have H := Lib.hid h
  generalize hwA : w.alloc (.cells #[.string ⟨#[]⟩, .string ⟨#[]⟩, .slice none 0 0, .bool false] 37) = wA
  have hwA' : w.alloc (.cells reqZ.toArray 37) = wA := hwA
  have hszA : wA.heap.size = w.heap.size + 1 := by rw [← hwA']; simp
  rw [hwA'] at kA bA
  have hA := h.keep0 kA
  have NA : NxS B w p X R wA X R I := ⟨hA, kA.mono (by simp), fun x hx => .inl hx, fun x hx => .inl hx, show Blk wA w.heap.size 37 reqZ from bA⟩
  obtain ⟨a0, a1, a3, a5⟩ := hA.at_
  have HNA := Lib.hid NA
  have MA := Lib.hid (hm.keep kA (by simp))
  have ZST := Lib.hid zst
  have HW := Lib.hid (inlet_wrong hA)
  have HFl := Lib.hid (fun s wt X1 R1 J (hh : It B wt p X1 R1 J) => inlet_fail (I := J) s hh)
  have hBA : B ≤ wA.heap.size := by omega
  have hlen := hok.len
  have HOK := Lib.hid hok
  have HLO := Lib.hid h.lo
  clear h kA bA hA NA hwA' zst hm hok
  have q1 := (int_eq hs0).2
  have hN : nextI I = if (headM I.inp).s ≠ 0 then ⟨{ I with st := (headM I.inp).s }, req0, (headM I.inp).s⟩
    else if (headM I.inp).got then tailI (headed I (headM I.inp)) (headM I.inp).q else ⟨I, req0, 0⟩ := by unfold nextI; rw [if_neg (by simp [hs0]), hrq]
  have hck := (HOK.out.req hs0 hrq).1
  have HH := Lib.hid (inlet_head HNA.out.it MA.out hBA hbig (by omega) hrq hck)
  have HX2 := Lib.hid (fun c => hst (headed I (headM I.inp)) c (.inr rfl))
  have hhd := head_bounds I.inp
  have c2 := it_noReq HNA.out.it hrq
  generalize headM I.inp = hd at *
  obtain ⟨hd1, hd2, hd3, _⟩ := hhd
  clear hst
  rw [if_pos hd0] at hN
  have hgot : hd.got = false := by cases hg : hd.got with | false => rfl | true => exact absurd (hd1 hg) hd0
  have q2 := (int_ne hd0).2
  rw [hN]
  clear hN hd0 hrq hs0 hck hd1
  go_enter Tryd.func12, Tryd.ntmps12
  go_wp2_with fail
  refine HH.out.mono ?_
  rintro e w1 ⟨rfl, _, k1, _⟩
  have HN1 := Lib.hid (HNA.out.step H.out (k1 hgot |>.mono (by simp)) (HNA.out.it.keep0 (k1 hgot)) (fun x hx => .inl hx) (fun x hx => .inl hx))
  clear k1 hwA
  go_wp2_with fail
  refine (HFl.out _ _ _ _ _ HN1.out.it).mono ?_
  rintro e w2 ⟨rfl, hi2, k2⟩
  have HN2 := Lib.hid (HN1.out.step H.out (HN1.out.it.keepX k2) hi2 (fun x hx => .inl hx) (fun x hx => .inl hx))
  have HF := Lib.hid (HN2.out.fin0 H.out hd.s)
  have HT := Lib.hid (HN2.out.bk.there' 0 4 (by simp [reqZ, reqC]))
  have hload := reqZ_back HT.out
  have HLd := Lib.hid hload
  clear hi2 k2 hload
  go_wp2_with (first
    | (refine wpList_store_mid rfl 37 (.tmp 2) (.tmp 32) rfl w.heap.size 0 reqZ.toArray (by rfl) (by first | rfl | kernel_rfl) HT.out ZST.out.1 ZST.out.2 ?_
       try simp only [Act.put])
    | fail)
  refine bodyPost_ret (v := .tuple #[.agg reqZ.toArray, .int .i64 hd.s]) (by have hl := HLd.out; simp [results, Tryd.results12, asAddr, Result.andThen, hl]) rfl HF.out
set_option maxRecDepth 100000 in
set_option maxHeartbeats 3000000 in
theorem next_wait {B p : Nat} {X R : List Nat} {I : InS} {w : World} (h : It B w p X R I) (hm : ML w) (hB : B ≤ w.heap.size) (hbig : 0 < B) (hok : I.ok) (hs0 : I.st = 0) (hrq : I.req = none) (hd0 : (headM I.inp).s = 0) (hgot : (headM I.inp).got = false) :
    Calls Tryd.prog 12 #[.pointer (some ⟨p, 0, none⟩)] w (NextOut B w p X R (nextI I)) := by
  have hst := next_hst hok
  have kA := (Keep.refl [] w).alloc (.cells reqZ.toArray 37)
  have bA := Blk.newA w reqZ.toArray 37
  have zst := req_st [] [] (v := .slice none 0 0) false rfl
  have H := Lib.hid h
  generalize hwA : w.alloc (.cells #[.string ⟨#[]⟩, .string ⟨#[]⟩, .slice none 0 0, .bool false] 37) = wA
  have hwA' : w.alloc (.cells reqZ.toArray 37) = wA := hwA
  have hszA : wA.heap.size = w.heap.size + 1 := by rw [← hwA']; simp
  rw [hwA'] at kA bA
  have hA := h.keep0 kA
  have NA : NxS B w p X R wA X R I := ⟨hA, kA.mono (by simp), fun x hx => .inl hx, fun x hx => .inl hx, show Blk wA w.heap.size 37 reqZ from bA⟩
  obtain ⟨a0, a1, a3, a5⟩ := hA.at_
  have HNA := Lib.hid NA
  have MA := Lib.hid (hm.keep kA (by simp))
  have ZST := Lib.hid zst
  have HW := Lib.hid (inlet_wrong hA)
  have HFl := Lib.hid (fun s wt X1 R1 J (hh : It B wt p X1 R1 J) => inlet_fail (I := J) s hh)
  have hBA : B ≤ wA.heap.size := by omega
  have hlen := hok.len
  have HOK := Lib.hid hok
  have HLO := Lib.hid h.lo
  clear h kA bA hA NA hwA' zst hm hok
  have q1 := (int_eq hs0).2
  have hN : nextI I = if (headM I.inp).s ≠ 0 then ⟨{ I with st := (headM I.inp).s }, req0, (headM I.inp).s⟩
    else if (headM I.inp).got then tailI (headed I (headM I.inp)) (headM I.inp).q else ⟨I, req0, 0⟩ := by unfold nextI; rw [if_neg (by simp [hs0]), hrq]
  have hck := (HOK.out.req hs0 hrq).1
  have HH := Lib.hid (inlet_head HNA.out.it MA.out hBA hbig (by omega) hrq hck)
  have HX2 := Lib.hid (fun c => hst (headed I (headM I.inp)) c (.inr rfl))
  have hhd := head_bounds I.inp
  have c2 := it_noReq HNA.out.it hrq
  generalize headM I.inp = hd at *
  obtain ⟨hd1, hd2, hd3, _⟩ := hhd
  clear hst
  rw [if_neg (by simp [hd0])] at hN
  rw [hgot, if_neg (by simp)] at hN
  rw [hN]
  rw [hd0] at HH
  have HRQ := Lib.hid hrq
  clear hN hd0 hrq hs0 hck hd1
  go_enter Tryd.func12, Tryd.ntmps12
  go_wp2_with fail
  refine HH.out.mono ?_
  rintro e w1 ⟨rfl, _, k1, _⟩
  have HN2 := Lib.hid (HNA.out.step H.out (k1 hgot |>.mono (by simp)) (HNA.out.it.keep0 (k1 hgot)) (fun x hx => .inl hx) (fun x hx => .inl hx))
  have c22 := it_noReq HN2.out.it HRQ.out
  have HF := Lib.hid (HN2.out.fin0 H.out 0)
  have HT := Lib.hid (HN2.out.bk.there' 0 4 (by simp [reqZ, reqC]))
  have hload := reqZ_back HT.out
  have HLd := Lib.hid hload
  clear k1 hload hwA
  go_wp2_with (first
    | (refine wpList_store_mid rfl 37 (.tmp 2) (.tmp 39) rfl w.heap.size 0 reqZ.toArray (by rfl) (by first | rfl | kernel_rfl) HT.out ZST.out.1 ZST.out.2 ?_
       try simp only [Act.put])
    | fail)
  refine bodyPost_ret (v := .tuple #[.agg reqZ.toArray, .int .i64 0]) (by have hl := HLd.out; simp [results, Tryd.results12, asAddr, Result.andThen, hl]) rfl HF.out
end Go.Proofs.YtpimfoohpfkciaaDoor

/- Layer 12: Next, when a request's head has come before. No conditions but on lengths. -/
namespace Go.Proofs.YtpimfoohpfkciaaDoor
open Go.RowKit Go.Shelf


set_option maxRecDepth 100000 in
set_option maxHeartbeats 3000000 in
theorem next_pend {B p : Nat} {X R : List Nat} {I : InS} {w : World} (h : It B w p X R I) (hm : ML w) (hB : B ≤ w.heap.size) (hbig : 0 < B) (hok : I.ok) {q : Req} (hs0 : I.st = 0) (hrq : I.req = some q) :
    Calls Tryd.prog 12 #[.pointer (some ⟨p, 0, none⟩)] w (NextOut B w p X R (nextI I)) := by
  have hst := next_hst hok
  have kA := (Keep.refl [] w).alloc (.cells reqZ.toArray 37)
  have bA := Blk.newA w reqZ.toArray 37
  have zst := req_st [] [] (v := .slice none 0 0) false rfl
  have H := Lib.hid h
  generalize hwA : w.alloc (.cells #[.string ⟨#[]⟩, .string ⟨#[]⟩, .slice none 0 0, .bool false] 37) = wA
  have hwA' : w.alloc (.cells reqZ.toArray 37) = wA := hwA
  have hszA : wA.heap.size = w.heap.size + 1 := by rw [← hwA']; simp
  rw [hwA'] at kA bA
  have hA := h.keep0 kA
  have NA : NxS B w p X R wA X R I := ⟨hA, kA.mono (by simp), fun x hx => .inl hx, fun x hx => .inl hx, show Blk wA w.heap.size 37 reqZ from bA⟩
  obtain ⟨a0, a1, a3, a5⟩ := hA.at_
  have HNA := Lib.hid NA
  have MA := Lib.hid (hm.keep kA (by simp))
  have ZST := Lib.hid zst
  have HW := Lib.hid (inlet_wrong hA)
  have HFl := Lib.hid (fun s wt X1 R1 J (hh : It B wt p X1 R1 J) => inlet_fail (I := J) s hh)
  have hBA : B ≤ wA.heap.size := by omega
  have hlen := hok.len
  have HOK := Lib.hid hok
  have HLO := Lib.hid h.lo
  clear h kA bA hA NA hwA' zst hm hok
  have q1 := (int_eq hs0).2
  have hN : nextI I = tailI I q := by unfold nextI; rw [if_neg (by simp [hs0]), hrq]
  have HNt := HNA
  have MT := MA
  have HOt := Lib.hid (show I.inp.length + I.held ≤ 65536 ∧ I.skip ≤ 65536 ∧ (∀ c, I.chk = some c → (c.err = 0 → c.ok) ∧ c.most = 4096 ∧ c.inp.length + c.dat.length ≤ 65536 ∧ (addC c I.inp).st ≤ 4) ∧ I.req = some q from
    ⟨by omega, by have := HOK.out.skp; omega, fun c hc => ⟨(hst I c (.inl rfl) hc).2, (HOK.out.chk c hc).2.1, by have := (HOK.out.chk c hc).2.2.1; omega, (hst I c (.inl rfl) hc).1⟩, hrq⟩)
  obtain ⟨rb, ra, rl, rc, c2, hjunk⟩ := it_req HNA.out.it hrq; clear hjunk
  rw [hN]
  clear hrq hN hst hs0
  go_enter Tryd.func12, Tryd.ntmps12
  go_wp2_with fail
  have HBd := Lib.hid (inlet_body HNt.out.it MT.out hBA hbig HOt.out.1 HOt.out.2.1 HOt.out.2.2.1)
  have hbr := body_req I
  have hT : tailI I q = if (bodyB I).s ≠ 0 then ⟨{ (bodyB I).p with st := (bodyB I).s }, req0, (bodyB I).s⟩
    else if (bodyB I).whole then ⟨{ (bodyB I).p with req := none, held := 0 }, q, 200⟩ else ⟨(bodyB I).p, req0, 0⟩ := rfl
  generalize bodyB I = bd at *
  obtain ⟨bp, bwh, bs⟩ := bd
  dsimp only at HBd hbr hT
  have hbq : bp.req = some q := hbr.1.trans HOt.out.2.2.2
  clear hbr c2
  refine HBd.out.mono ?_
  rintro e w5 ⟨rfl, k5, X5, hi5, n5⟩
  have HN5 := Lib.hid (HNt.out.step H.out k5 hi5 n5 (fun x hx => .inl hx))
  clear k5 hi5 n5 HBd
  by_cases hs5 : bs = 0
  case neg =>
    rw [if_pos hs5] at hT
    have q5 := (int_ne hs5).2
    clear hs5
    go_wp2_with fail
    refine (HFl.out _ _ _ _ _ HN5.out.it).mono ?_
    rintro e w6 ⟨rfl, hi2, k2⟩
    have HN2 := Lib.hid (HN5.out.step H.out (HN5.out.it.keepX k2) hi2 (fun x hx => .inl hx) (fun x hx => .inl hx))
    have HF := Lib.hid ((HN2.out.fin0 H.out bs).of hT)
    have HT := Lib.hid (HN2.out.bk.there' 0 4 (by simp [reqZ, reqC]))
    have hload := reqZ_back HT.out
    have HLd := Lib.hid hload
    clear hi2 k2 hload hT
    go_wp2_with (first
      | (with_reducible (show wpList _ _ _ ((⟨none, .store _ (.tmp 2) (.tmp 51), _, _, _, none⟩ : Oper) :: _) _ _)
         refine wpList_store_mid rfl 37 (.tmp 2) (.tmp 51) rfl w.heap.size 0 reqZ.toArray (by rfl) (by first | rfl | kernel_rfl) HT.out ZST.out.1 ZST.out.2 ?_
         try simp only [Act.put])
      | fail)
    refine bodyPost_ret (v := .tuple #[.agg reqZ.toArray, .int .i64 bs]) (by have hl := HLd.out; simp [results, Tryd.results12, asAddr, Result.andThen, hl]) rfl HF.out
  rw [if_neg (by simp [hs5])] at hT
  subst hs5
  cases bwh with
  | false =>
    rw [if_neg (by simp)] at hT
    have HF := Lib.hid ((HN5.out.fin0 H.out 0).of hT)
    have HT := Lib.hid (HN5.out.bk.there' 0 4 (by simp [reqZ, reqC]))
    have hload := reqZ_back HT.out
    have HLd := Lib.hid hload
    clear hT hload
    go_wp2_with (first
      | (with_reducible (show wpList _ _ _ ((⟨none, .store _ (.tmp 2) (.tmp 56), _, _, _, none⟩ : Oper) :: _) _ _)
         refine wpList_store_mid rfl 37 (.tmp 2) (.tmp 56) rfl w.heap.size 0 reqZ.toArray (by rfl) (by first | rfl | kernel_rfl) HT.out ZST.out.1 ZST.out.2 ?_
         try simp only [Act.put])
      | fail)
    refine bodyPost_ret (v := .tuple #[.agg reqZ.toArray, .int .i64 0]) (by have hl := HLd.out; simp [results, Tryd.results12, asAddr, Result.andThen, hl]) rfl HF.out
  | true =>
    rw [if_pos rfl] at hT
    obtain ⟨rb2, sa, sl, sc, c2, hq2, ho2, hg2, hrb2⟩ := it_req HN5.out.it hbq
    have hoff := HN5.out.off H.out
    have hbk := HN5.out.bk
    have kW := (Keep.refl [] w5).alloc (.cells (reqC q.m q.t (.slice sa sl sc) q.cl).toArray 37)
    have nW := Blk.newA w5 (reqC q.m q.t (.slice sa sl sc) q.cl).toArray 37
    have hp5 := HN5.out.it.lt
    have RNG := Lib.hid hq2.range'
    generalize hwW : w5.alloc (.cells (reqC q.m q.t (.slice sa sl sc) q.cl).toArray 37) = wW at kW nW
    have iW := HN5.out.it.keep0 kW
    have d2 : wW.cell? ⟨p, 2, none⟩ = some (.pointer (some ⟨rb2, 0, none⟩)) := kW.load c2
    have d1 := iW.at_.2.1
    have g1 := iW.free 1
    have g2 := iW.free 2
    have kP := ((Keep.refl [p] wW).setCell ⟨p, 2, none⟩ (.pointer none) (by simp)).setCell ⟨p, 1, none⟩ (.int .i64 0) (by simp)
    have hnep : w5.heap.size ≠ p := by omega
    have nP := kP.blk (show Blk wW w5.heap.size 37 (reqC q.m q.t (.slice sa sl sc) q.cl) from nW) (by simpa using hnep)
    have iP := it_unreq iW
    have HNP := Lib.hid ((HN5.out.step H.out (kW.mono (S' := X5) (by simp)) iW (fun x hx => .inl hx) (fun x hx => .inl hx)).step H.out (iW.keepX kP) iP (fun x hx => .inl hx) (by simp))
    have HT := Lib.hid (HNP.out.bk.there' 0 4 (by simp [reqZ, reqC]))
    have hload := req_back (m := q.m) (t := q.t) (v := .slice sa sl sc) (cl := q.cl) HT.out
    have HLd := Lib.hid hload
    have OP := ((ho2.keep0 kW).keep kP (fun g hg => by simp; rintro rfl; exact (HN5.out.it.ro _ (hg2 _ hg)).2.2 HN5.out.it.mem))
    have HF := Lib.hid ((HNP.out.fin H.out q (.slice sa sl sc) 200 OP (fun g hg => ⟨HN5.out.nr g (hg2 g hg), (HN5.out.it.ro g (hg2 g hg)).2.2⟩)).of hT)
    have HS1 := Lib.hid (reqC_one q.m q.t (v := .slice sa sl sc) q.cl rfl)
    have ST := Lib.hid (req_st q.m q.t (v := .slice sa sl sc) q.cl rfl)
    have RP := Lib.hid nP.range'
    clear hT hload hq2 ho2 hg2 hrb2 hoff hbk kW nW iW kP nP iP OP hp5
    go_wp2_with (first
      | (with_reducible (show wpList _ _ _ ((⟨_, .load _ (.tmp 61), _, _, _, none⟩ : Oper) :: _) _ _)
         refine wpList_load_mid rfl 37 (.tmp 61) rfl rb2 0 (by rfl) (reqC q.m q.t (.slice sa sl sc) q.cl) _ RNG.out Tryd.underlying37 rfl req_size ?_
         try simp only [Act.put, List.setIfInBounds_toArray, List.set_cons_succ, List.set_cons_zero])
      | (with_reducible (show wpList _ _ _ ((⟨none, .store _ (.tmp 7) (.tmp 62), _, _, _, none⟩ : Oper) :: _) _ _)
         refine wpList_store_fresh rfl 37 (.tmp 7) (.tmp 62) rfl _ (reqC q.m q.t (.slice sa sl sc) q.cl) (by rfl) (by rfl) req_size (by rfl) HS1.out ?_
         rw [hwW]
         try simp only [Act.put])
      | (with_reducible (show wpList _ _ _ ((⟨_, .load _ (.tmp 7), _, _, _, none⟩ : Oper) :: _) _ _)
         refine wpList_load_mid rfl 37 (.tmp 7) rfl w5.heap.size 0 (by rfl) (reqC q.m q.t (.slice sa sl sc) q.cl) _ RP.out Tryd.underlying37 rfl req_size ?_
         try simp only [Act.put, List.setIfInBounds_toArray, List.set_cons_succ, List.set_cons_zero])
      | (with_reducible (show wpList _ _ _ ((⟨none, .store _ (.tmp 2) (.tmp 69), _, _, _, none⟩ : Oper) :: _) _ _)
         refine wpList_store_mid rfl 37 (.tmp 2) (.tmp 69) rfl w.heap.size 0 (reqC q.m q.t (.slice sa sl sc) q.cl).toArray (by rfl) (by first | rfl | kernel_rfl) HT.out ST.out.1 ST.out.2 ?_
         try simp only [Act.put])
      | fail)
    refine bodyPost_ret (v := .tuple #[.agg (reqC q.m q.t (.slice sa sl sc) q.cl).toArray, .int .i64 200]) (by have hl := HLd.out; simp [results, Tryd.results12, asAddr, Result.andThen, hl]) rfl HF.out
end Go.Proofs.YtpimfoohpfkciaaDoor

/- Layer 12: Next, when a request's head has come now. No conditions but on lengths. -/
namespace Go.Proofs.YtpimfoohpfkciaaDoor
open Go.RowKit Go.Shelf


set_option maxRecDepth 100000 in
set_option maxHeartbeats 3000000 in
theorem next_got {B p : Nat} {X R : List Nat} {I : InS} {w : World} (h : It B w p X R I) (hm : ML w) (hB : B ≤ w.heap.size) (hbig : 0 < B) (hok : I.ok) (hs0 : I.st = 0) (hrq : I.req = none) (hd0 : (headM I.inp).s = 0) (hgot : (headM I.inp).got = true) :
    Calls Tryd.prog 12 #[.pointer (some ⟨p, 0, none⟩)] w (NextOut B w p X R (nextI I)) := by
  have hst := next_hst hok
  have kA := (Keep.refl [] w).alloc (.cells reqZ.toArray 37)
  have bA := Blk.newA w reqZ.toArray 37
  have zst := req_st [] [] (v := .slice none 0 0) false rfl
  have H := Lib.hid h
  generalize hwA : w.alloc (.cells #[.string ⟨#[]⟩, .string ⟨#[]⟩, .slice none 0 0, .bool false] 37) = wA
  have hwA' : w.alloc (.cells reqZ.toArray 37) = wA := hwA
  have hszA : wA.heap.size = w.heap.size + 1 := by rw [← hwA']; simp
  rw [hwA'] at kA bA
  have hA := h.keep0 kA
  have NA : NxS B w p X R wA X R I := ⟨hA, kA.mono (by simp), fun x hx => .inl hx, fun x hx => .inl hx, show Blk wA w.heap.size 37 reqZ from bA⟩
  obtain ⟨a0, a1, a3, a5⟩ := hA.at_
  have HNA := Lib.hid NA
  have MA := Lib.hid (hm.keep kA (by simp))
  have ZST := Lib.hid zst
  have HW := Lib.hid (inlet_wrong hA)
  have HFl := Lib.hid (fun s wt X1 R1 J (hh : It B wt p X1 R1 J) => inlet_fail (I := J) s hh)
  have hBA : B ≤ wA.heap.size := by omega
  have hlen := hok.len
  have HOK := Lib.hid hok
  have HLO := Lib.hid h.lo
  clear h kA bA hA NA hwA' zst hm hok
  have q1 := (int_eq hs0).2
  have hN : nextI I = if (headM I.inp).s ≠ 0 then ⟨{ I with st := (headM I.inp).s }, req0, (headM I.inp).s⟩
    else if (headM I.inp).got then tailI (headed I (headM I.inp)) (headM I.inp).q else ⟨I, req0, 0⟩ := by unfold nextI; rw [if_neg (by simp [hs0]), hrq]
  have hck := (HOK.out.req hs0 hrq).1
  have HH := Lib.hid (inlet_head HNA.out.it MA.out hBA hbig (by omega) hrq hck)
  have HX2 := Lib.hid (fun c => hst (headed I (headM I.inp)) c (.inr rfl))
  have hhd := head_bounds I.inp
  have c2 := it_noReq HNA.out.it hrq
  generalize headM I.inp = hd at *
  obtain ⟨hd1, hd2, hd3, _⟩ := hhd
  clear hst
  rw [if_neg (by simp [hd0])] at hN
  rw [hgot, if_pos rfl] at hN
  rw [hN]
  rw [hd0] at HH
  have HOt' := Lib.hid (show (headed I hd).inp.length + (headed I hd).held ≤ 65536 ∧ (headed I hd).skip ≤ 65536 ∧ (∀ c, (headed I hd).chk = some c → (c.err = 0 → c.ok) ∧ c.most = 4096 ∧ c.inp.length + c.dat.length ≤ 65536 ∧ (addC c (headed I hd).inp).st ≤ 4) ∧ (headed I hd).req = some hd.q from
    ⟨by show (I.inp.drop hd.n).length + hd.n ≤ 65536; have := hd2 hgot; rw [List.length_drop]; omega, by have := hd3 hgot; show hd.skip ≤ 65536; omega, fun c hc => (by
      have h1 := HX2.out c hc
      have h2 : (if hd.ch then some (ck0 4096) else I.chk) = some c := hc
      rw [hck] at h2
      split at h2
      · cases h2; exact ⟨h1.2, rfl, by simp [ck0], h1.1⟩
      · cases h2), rfl⟩)
  clear hN hd0 hrq hs0 hck hd1 hd2 hd3 HX2
  generalize headed I hd = J at *
  generalize hd.q = q at *
  go_enter Tryd.func12, Tryd.ntmps12
  go_wp2_with fail
  refine HH.out.mono ?_
  rintro e w1 ⟨rfl, k1, _, hx1⟩
  obtain ⟨X1, R1, hi1, n1, r1⟩ := hx1 hgot
  have HN1 := Lib.hid (HNA.out.step H.out (HNA.out.it.keepX k1) hi1 n1 (fun x hx => .inr (r1 x hx)))
  have M1 := Lib.hid (MA.out.keepB hbig (HNA.out.it.keepX k1) (fun x hx => (HLO.out x hx).1))
  have hsz1 : B ≤ w1.heap.size := Nat.le_trans hBA k1.size
  clear k1 hx1 hi1 n1 r1 c2 a0 a1 a3 a5 q1 hwA HH
  obtain ⟨rb, ra, rl, rc, c2, hjunk⟩ := it_req HN1.out.it HOt'.out.2.2.2; clear hjunk
  go_wp2_with fail
  have HBd := Lib.hid (inlet_body HN1.out.it M1.out hsz1 hbig HOt'.out.1 HOt'.out.2.1 HOt'.out.2.2.1)
  have hbr := body_req J
  have hT : tailI J q = if (bodyB J).s ≠ 0 then ⟨{ (bodyB J).p with st := (bodyB J).s }, req0, (bodyB J).s⟩
    else if (bodyB J).whole then ⟨{ (bodyB J).p with req := none, held := 0 }, q, 200⟩ else ⟨(bodyB J).p, req0, 0⟩ := rfl
  generalize bodyB J = bd at *
  obtain ⟨bp, bwh, bs⟩ := bd
  dsimp only at HBd hbr hT
  have hbq : bp.req = some q := hbr.1.trans HOt'.out.2.2.2
  clear hbr c2
  refine HBd.out.mono ?_
  rintro e w5 ⟨rfl, k5, X5, hi5, n5⟩
  have HN5 := Lib.hid (HN1.out.step H.out k5 hi5 n5 (fun x hx => .inl hx))
  clear k5 hi5 n5 HBd
  by_cases hs5 : bs = 0
  case neg =>
    rw [if_pos hs5] at hT
    have q5 := (int_ne hs5).2
    clear hs5
    go_wp2_with fail
    refine (HFl.out _ _ _ _ _ HN5.out.it).mono ?_
    rintro e w6 ⟨rfl, hi2, k2⟩
    have HN2 := Lib.hid (HN5.out.step H.out (HN5.out.it.keepX k2) hi2 (fun x hx => .inl hx) (fun x hx => .inl hx))
    have HF := Lib.hid ((HN2.out.fin0 H.out bs).of hT)
    have HT := Lib.hid (HN2.out.bk.there' 0 4 (by simp [reqZ, reqC]))
    have hload := reqZ_back HT.out
    have HLd := Lib.hid hload
    clear hi2 k2 hload hT
    go_wp2_with (first
      | (with_reducible (show wpList _ _ _ ((⟨none, .store _ (.tmp 2) (.tmp 51), _, _, _, none⟩ : Oper) :: _) _ _)
         refine wpList_store_mid rfl 37 (.tmp 2) (.tmp 51) rfl w.heap.size 0 reqZ.toArray (by rfl) (by first | rfl | kernel_rfl) HT.out ZST.out.1 ZST.out.2 ?_
         try simp only [Act.put])
      | fail)
    refine bodyPost_ret (v := .tuple #[.agg reqZ.toArray, .int .i64 bs]) (by have hl := HLd.out; simp [results, Tryd.results12, asAddr, Result.andThen, hl]) rfl HF.out
  rw [if_neg (by simp [hs5])] at hT
  subst hs5
  cases bwh with
  | false =>
    rw [if_neg (by simp)] at hT
    have HF := Lib.hid ((HN5.out.fin0 H.out 0).of hT)
    have HT := Lib.hid (HN5.out.bk.there' 0 4 (by simp [reqZ, reqC]))
    have hload := reqZ_back HT.out
    have HLd := Lib.hid hload
    clear hT hload
    go_wp2_with (first
      | (with_reducible (show wpList _ _ _ ((⟨none, .store _ (.tmp 2) (.tmp 56), _, _, _, none⟩ : Oper) :: _) _ _)
         refine wpList_store_mid rfl 37 (.tmp 2) (.tmp 56) rfl w.heap.size 0 reqZ.toArray (by rfl) (by first | rfl | kernel_rfl) HT.out ZST.out.1 ZST.out.2 ?_
         try simp only [Act.put])
      | fail)
    refine bodyPost_ret (v := .tuple #[.agg reqZ.toArray, .int .i64 0]) (by have hl := HLd.out; simp [results, Tryd.results12, asAddr, Result.andThen, hl]) rfl HF.out
  | true =>
    rw [if_pos rfl] at hT
    obtain ⟨rb2, sa, sl, sc, c2, hq2, ho2, hg2, hrb2⟩ := it_req HN5.out.it hbq
    have hoff := HN5.out.off H.out
    have hbk := HN5.out.bk
    have kW := (Keep.refl [] w5).alloc (.cells (reqC q.m q.t (.slice sa sl sc) q.cl).toArray 37)
    have nW := Blk.newA w5 (reqC q.m q.t (.slice sa sl sc) q.cl).toArray 37
    have hp5 := HN5.out.it.lt
    have RNG := Lib.hid hq2.range'
    generalize hwW : w5.alloc (.cells (reqC q.m q.t (.slice sa sl sc) q.cl).toArray 37) = wW at kW nW
    have iW := HN5.out.it.keep0 kW
    have d2 : wW.cell? ⟨p, 2, none⟩ = some (.pointer (some ⟨rb2, 0, none⟩)) := kW.load c2
    have d1 := iW.at_.2.1
    have g1 := iW.free 1
    have g2 := iW.free 2
    have kP := ((Keep.refl [p] wW).setCell ⟨p, 2, none⟩ (.pointer none) (by simp)).setCell ⟨p, 1, none⟩ (.int .i64 0) (by simp)
    have hnep : w5.heap.size ≠ p := by omega
    have nP := kP.blk (show Blk wW w5.heap.size 37 (reqC q.m q.t (.slice sa sl sc) q.cl) from nW) (by simpa using hnep)
    have iP := it_unreq iW
    have HNP := Lib.hid ((HN5.out.step H.out (kW.mono (S' := X5) (by simp)) iW (fun x hx => .inl hx) (fun x hx => .inl hx)).step H.out (iW.keepX kP) iP (fun x hx => .inl hx) (by simp))
    have HT := Lib.hid (HNP.out.bk.there' 0 4 (by simp [reqZ, reqC]))
    have hload := req_back (m := q.m) (t := q.t) (v := .slice sa sl sc) (cl := q.cl) HT.out
    have HLd := Lib.hid hload
    have OP := ((ho2.keep0 kW).keep kP (fun g hg => by simp; rintro rfl; exact (HN5.out.it.ro _ (hg2 _ hg)).2.2 HN5.out.it.mem))
    have HF := Lib.hid ((HNP.out.fin H.out q (.slice sa sl sc) 200 OP (fun g hg => ⟨HN5.out.nr g (hg2 g hg), (HN5.out.it.ro g (hg2 g hg)).2.2⟩)).of hT)
    have HS1 := Lib.hid (reqC_one q.m q.t (v := .slice sa sl sc) q.cl rfl)
    have ST := Lib.hid (req_st q.m q.t (v := .slice sa sl sc) q.cl rfl)
    have RP := Lib.hid nP.range'
    clear hT hload hq2 ho2 hg2 hrb2 hoff hbk kW nW iW kP nP iP OP hp5
    go_wp2_with (first
      | (with_reducible (show wpList _ _ _ ((⟨_, .load _ (.tmp 61), _, _, _, none⟩ : Oper) :: _) _ _)
         refine wpList_load_mid rfl 37 (.tmp 61) rfl rb2 0 (by rfl) (reqC q.m q.t (.slice sa sl sc) q.cl) _ RNG.out Tryd.underlying37 rfl req_size ?_
         try simp only [Act.put, List.setIfInBounds_toArray, List.set_cons_succ, List.set_cons_zero])
      | (with_reducible (show wpList _ _ _ ((⟨none, .store _ (.tmp 7) (.tmp 62), _, _, _, none⟩ : Oper) :: _) _ _)
         refine wpList_store_fresh rfl 37 (.tmp 7) (.tmp 62) rfl _ (reqC q.m q.t (.slice sa sl sc) q.cl) (by rfl) (by rfl) req_size (by rfl) HS1.out ?_
         rw [hwW]
         try simp only [Act.put])
      | (with_reducible (show wpList _ _ _ ((⟨_, .load _ (.tmp 7), _, _, _, none⟩ : Oper) :: _) _ _)
         refine wpList_load_mid rfl 37 (.tmp 7) rfl w5.heap.size 0 (by rfl) (reqC q.m q.t (.slice sa sl sc) q.cl) _ RP.out Tryd.underlying37 rfl req_size ?_
         try simp only [Act.put, List.setIfInBounds_toArray, List.set_cons_succ, List.set_cons_zero])
      | (with_reducible (show wpList _ _ _ ((⟨none, .store _ (.tmp 2) (.tmp 69), _, _, _, none⟩ : Oper) :: _) _ _)
         refine wpList_store_mid rfl 37 (.tmp 2) (.tmp 69) rfl w.heap.size 0 (reqC q.m q.t (.slice sa sl sc) q.cl).toArray (by rfl) (by first | rfl | kernel_rfl) HT.out ST.out.1 ST.out.2 ?_
         try simp only [Act.put])
      | fail)
    refine bodyPost_ret (v := .tuple #[.agg (reqC q.m q.t (.slice sa sl sc) q.cl).toArray, .int .i64 200]) (by have hl := HLd.out; simp [results, Tryd.results12, asAddr, Result.andThen, hl]) rfl HF.out
end Go.Proofs.YtpimfoohpfkciaaDoor

/- Layer 12: Next. No conditions but on lengths. -/
namespace Go.Proofs.YtpimfoohpfkciaaDoor

theorem inlet_Next {B p : Nat} {X R : List Nat} {I : InS} {w : World} (h : It B w p X R I) (hm : ML w) (hB : B ≤ w.heap.size) (hbig : 0 < B) (hok : I.ok) :
    Calls Tryd.prog 12 #[.pointer (some ⟨p, 0, none⟩)] w (NextOut B w p X R (nextI I)) := by
  by_cases hs0 : I.st = 0
  · cases hrq : I.req with
    | some q => exact next_pend h hm hB hbig hok hs0 hrq
    | none =>
      by_cases hd0 : (headM I.inp).s = 0
      · cases hgot : (headM I.inp).got with
        | true => exact next_got h hm hB hbig hok hs0 hrq hd0 hgot
        | false => exact next_wait h hm hB hbig hok hs0 hrq hd0 hgot
      · exact next_wrong h hm hB hbig hok hs0 hrq hd0
  · exact next_neg h hm hB hbig hok hs0
end Go.Proofs.YtpimfoohpfkciaaDoor

/- Layer 16: what the statements are awake to; the statements' own decimal numbers. No conditions but on sizes. -/
namespace Go.Proofs.YtpimfoohpfkciaaDoor
open Go.RowKit Go.Shelf

theorem cut_by (a b : List UInt8) (c : UInt8) (h : c ∉ a) : Lib.cut (a ++ c :: b) [c] = (a, b, true) := by
  unfold Lib.cut
  have hi : Lib.index (a ++ c :: b) [c] = (a.length : Int) := by
    rw [Lib.index_one]
    refine indexByte_at (by simp) (fun j hj => ?_)
    rw [List.getElem?_append_left hj]
    intro e
    exact h (List.mem_of_getElem? e)
  rw [hi, if_pos (by omega)]
  simp
theorem dec_no (u : Nat) {c : UInt8} (h : decB c = false) : c ∉ Lib.decDigits u := fun hm => by
  have := List.all_eq_true.1 (dec_all u) c hm
  rw [h] at this
  cases this
theorem unit_pre {u : List UInt8} (h6 : u.length = 6) (hu : (u.zip unitB).all (fun p => unitOk p.2 p.1) = true) (r : List UInt8) : isUnitM (u ++ r) = true ∧ (u ++ r).drop 6 = r := by
  refine ⟨?_, by rw [List.drop_append_of_le_length (by omega), List.drop_of_length_le (by omega)]; rfl⟩
  unfold isUnitM
  have : (u ++ r).zip unitB = u.zip unitB := by
    have e : unitB = unitB ++ [] := (List.append_nil _).symm
    rw [e, List.zip_append (by rw [h6]; rfl), List.zip_nil_right]
    simp
  rw [this, hu]
  simp; omega
/-- what a Range of two numbers is -/
theorem bds_of {u a b : List UInt8} (h6 : u.length = 6) (hu : (u.zip unitB).all (fun p => unitOk p.2 p.1) = true) (ha : (45 : UInt8) ∉ a) :
    bdsM (u ++ (a ++ 45 :: b)) = ⟨numN a, numI a, numN b, numI b, true && numK a && numK b && (numI a || numI b) && !(numI a && numI b && decide (numN b < numN a))⟩ := by
  unfold bdsM
  obtain ⟨h1, h2⟩ := unit_pre h6 hu (a ++ 45 :: b)
  rw [if_pos h1]
  simp only [h2, cut_by a b 45 ha]
theorem ask_get (l : List UInt8) : getV [⟨rangeB, l⟩] rangeB = l ∧ getN [⟨rangeB, l⟩] rangeB = 1 := by
  have : getS [⟨rangeB, l⟩] rangeB = [⟨rangeB, l⟩] := by
    unfold getS
    rw [List.filter_cons_of_pos (by simp [sameN]), List.filter_nil]
  unfold getV getN
  rw [this]
  exact ⟨rfl, rfl⟩
theorem ask_parse (l : List UInt8) (size : Int) : parseM [⟨rangeB, l⟩] size = prtM 1 (bdsM l) size := by
  unfold parseM
  rw [(ask_get l).1, (ask_get l).2]
  rfl

theorem nat_mod (n : Nat) : ((n : Int)).tmod 10 = ((n % 10 : Nat) : Int) := by rw [Int.tmod_eq_emod_of_nonneg (by omega)]; omega
theorem nat_div (n : Nat) : ((n : Int)).tdiv 10 = ((n / 10 : Nat) : Int) := by rw [Int.tdiv_eq_ediv_of_nonneg (by omega)]; omega
theorem dig_cut {r : Nat} (h : r < 10) : (⟨#[48, 49, 50, 51, 52, 53, 54, 55, 56, 57]⟩ : ByteArray).extract r (r + 1) = S [UInt8.ofNat (48 + r)] := by
  have : ∀ r : Fin 10, (⟨#[48, 49, 50, 51, 52, 53, 54, 55, 56, 57]⟩ : ByteArray).extract r.1 (r.1 + 1) = S [UInt8.ofNat (48 + r.1)] := by decide +kernel
  exact this ⟨r, h⟩
def decI (first : Bool) (n : Nat) : List UInt8 := if first = true ∨ 0 < n then Lib.decDigits n else []
theorem decI_step (first : Bool) (n : Nat) (h : first = true ∨ 0 < n) : decI first n = decI false (n / 10) ++ [UInt8.ofNat (48 + n % 10)] := by
  unfold decI
  rw [if_pos h]
  by_cases h1 : n < 10
  · rw [dec_small h1, if_neg (by simp; omega), Nat.mod_eq_of_lt h1]; rfl
  · rw [dec_big h1, if_pos (by right; omega)]

end Go.Proofs.YtpimfoohpfkciaaDoor

/- Layer 16: what the statements are awake to; the statement SliceCovers: its function answers true for every input. No conditions but on the library's tables. -/
namespace Go.Proofs.YtpimfoohpfkciaaDoor
open Go.RowKit Go.Shelf

def q1 : List UInt8 := [98, 121, 116, 101, 115, 61, 50, 45, 52]
def q2 : List UInt8 := [98, 121, 116, 101, 115, 61, 45, 51]
def q3 : List UInt8 := [98, 121, 116, 101, 115, 61, 49, 48, 45]
def q4 : List UInt8 := [98, 121, 116, 101, 115, 61, 49, 45, 50, 44, 52, 45, 53]
theorem awake16_parse : prtM 1 (bdsM q1) 10 = ⟨2, 2, 4⟩ ∧ prtM 1 (bdsM q2) 10 = ⟨2, 7, 9⟩ ∧ prtM 1 (bdsM q3) 10 = ⟨3, 0, 0⟩ ∧ prtM 1 (bdsM q4) 10 = ⟨1, 0, 9⟩ := by decide +kernel
theorem itoa_10 : Lib.itoa 10 = [49, 48] := by
  have := Lib.itoa_nonneg 10
  rw [show ((10 : Nat) : Int) = 10 from rfl] at this
  rw [this, dec_big (by omega), dec_small (by omega)]
  rfl
theorem itoa_1 {n : Nat} (h : n < 10) : Lib.itoa (n : Int) = [UInt8.ofNat (48 + n)] := by rw [Lib.itoa_nonneg, dec_small h]
theorem awake16_print : prnS 2 4 10 = [98, 121, 116, 101, 115, 32, 50, 45, 52, 47, 49, 48] ∧ prnE 2 4 10 = 0 ∧ unmetS 10 = [98, 121, 116, 101, 115, 32, 42, 47, 49, 48] := by
  have h2 : Lib.itoa 2 = [50] := itoa_1 (n := 2) (by omega)
  have h4 : Lib.itoa 4 = [52] := itoa_1 (n := 4) (by omega)
  refine ⟨?_, rfl, ?_⟩
  · unfold prnS
    rw [if_pos (show prnOk 2 4 10 = true by decide), h2, h4, itoa_10]; rfl
  · unfold unmetS
    rw [show max (10 : Int) 0 = 10 from rfl, itoa_10]; rfl

def unitC : List UInt8 := [66, 121, 116, 101, 115, 61]
theorem num_zero : numN [48] = 0 ∧ numI [48] = true ∧ numK [48] = true ∧ numN [] = 0 ∧ numI [] = false ∧ numK [] = true := by decide +kernel
/-- the three parts that are asked for -/
theorem covers_plain (size n : Nat) (h2 : 2 ≤ size) (hs : (size : Int) ≤ 4611686018427387904) (h1 : 1 ≤ n) (hn : n < size) :
    prtM 1 (bdsM (unitB ++ ([48] ++ 45 :: Lib.decDigits (n - 1)))) size = ⟨2, 0, (n : Int) - 1⟩ ∧ prtM 1 (bdsM (unitB ++ (Lib.decDigits n ++ 45 :: []))) size = ⟨2, n, (size : Int) - 1⟩ ∧ prtM 1 (bdsM (unitC ++ ([] ++ 45 :: Lib.decDigits (size - n)))) size = ⟨2, n, (size : Int) - 1⟩ := by
  obtain ⟨z1, z2, z3, z4, z5, z6⟩ := num_zero
  have hB : (unitB.zip unitB).all (fun p => unitOk p.2 p.1) = true := by decide
  have hC : (unitC.zip unitB).all (fun p => unitOk p.2 p.1) = true := by decide
  refine ⟨?_, ?_, ?_⟩
  · obtain ⟨n1, n2, n3⟩ := num_dec (n - 1) (by omega)
    rw [bds_of rfl hB (by decide), z1, z2, z3, n1, n2, n3]
    unfold prtM
    dsimp only
    rw [if_neg (by simp <;> omega), if_neg (by simp <;> omega), if_neg (by simp), if_pos rfl]
    congr 1
    omega
  · obtain ⟨n1, n2, n3⟩ := num_dec n (by omega)
    rw [bds_of rfl hB (dec_no n (by decide)), z4, z5, z6, n1, n2, n3]
    unfold prtM
    dsimp only
    rw [if_neg (by simp), if_neg (by simp <;> omega), if_neg (by simp), if_neg (by simp)]
    congr 1
    omega
  · obtain ⟨n1, n2, n3⟩ := num_dec (size - n) (by omega)
    rw [bds_of rfl hC (by simp), z4, z5, z6, n1, n2, n3]
    unfold prtM
    dsimp only
    rw [if_neg (by simp), if_neg (by simp <;> omega), if_pos rfl]
    congr 1
    · omega
    · omega
end Go.Proofs.YtpimfoohpfkciaaDoor

/- Layer 16: Read. No conditions but on lengths and the library's tables. -/
namespace Go.Proofs.YtpimfoohpfkciaaDoor
open Go.RowKit Go.Shelf

/-- what a Content-Range is read as -/
structure Rd3 where
  a : Int
  b : Int
  c : Int
  e : Int
  deriving DecidableEq
/-- the three texts -/
def rdA (l : List UInt8) : List UInt8 := (Lib.cut (Lib.trimPrefix l saidB) [45]).1
def rdB (l : List UInt8) : List UInt8 := (Lib.cut (Lib.cut (Lib.trimPrefix l saidB) [45]).2.1 [47]).1
def rdC (l : List UInt8) : List UInt8 := (Lib.cut (Lib.cut (Lib.trimPrefix l saidB) [45]).2.1 [47]).2.1
def rdcM (l : List UInt8) : Rd3 :=
  if undecE (rdA l) 4611686018427387904 ≠ 0 then ⟨0, 0, 0, 3⟩ else if undecE (rdB l) 4611686018427387904 ≠ 0 then ⟨0, 0, 0, 3⟩ else if undecE (rdC l) 4611686018427387904 ≠ 0 then ⟨0, 0, 0, 3⟩
  else if prnE (undecV (rdA l) 4611686018427387904) (undecV (rdB l) 4611686018427387904) (undecV (rdC l) 4611686018427387904) ≠ 0 ∨ prnS (undecV (rdA l) 4611686018427387904) (undecV (rdB l) 4611686018427387904) (undecV (rdC l) 4611686018427387904) ≠ l then ⟨0, 0, 0, 3⟩
  else ⟨undecV (rdA l) 4611686018427387904, undecV (rdB l) 4611686018427387904, undecV (rdC l) 4611686018427387904, 0⟩
def Rd3.asV (r : Rd3) : Value := .tuple #[.int .i64 r.a, .int .i64 r.b, .int .i64 r.c, .int .i64 r.e]
theorem trim_len (l p : List UInt8) : (Lib.trimPrefix l p).length ≤ l.length := by
  unfold Lib.trimPrefix
  split <;> simp

end Go.Proofs.YtpimfoohpfkciaaDoor

/- Layer 16: what is written is read as it was. Plain laws; arrays of three numbers. No conditions. -/
namespace Go.Proofs.YtpimfoohpfkciaaDoor
open Go.RowKit Go.Shelf

theorem trim_pre (p r : List UInt8) : Lib.trimPrefix (p ++ r) p = r := by
  unfold Lib.trimPrefix Lib.hasPrefix
  simp
theorem prn_nat {a b c : Int} (h : prnOk a b c = true) : ∃ x y z : Nat, a = x ∧ b = y ∧ c = z ∧ (x : Int) ≤ 4611686018427387904 ∧ (y : Int) ≤ 4611686018427387904 ∧ (z : Int) ≤ 4611686018427387904 := by
  unfold prnOk at h
  simp only [Bool.and_eq_true, decide_eq_true_eq] at h
  exact ⟨a.toNat, b.toNat, c.toNat, by omega, by omega, by omega, by omega, by omega, by omega⟩
theorem prn_parts {x y z : Nat} (h : prnOk x y z = true) : rdA (prnS x y z) = Lib.decDigits x ∧ rdB (prnS x y z) = Lib.decDigits y ∧ rdC (prnS x y z) = Lib.decDigits z := by
  have e : prnS x y z = saidB ++ (Lib.decDigits x ++ 45 :: (Lib.decDigits y ++ 47 :: Lib.decDigits z)) := by
    unfold prnS
    rw [if_pos h, Lib.itoa_nonneg, Lib.itoa_nonneg, Lib.itoa_nonneg]
    simp
  unfold rdA rdB rdC
  rw [e, trim_pre, cut_by _ _ _ (dec_no x (by decide)), cut_by _ _ _ (dec_no y (by decide))]
  exact ⟨rfl, rfl, rfl⟩
theorem rdc_ok {a b c : Int} (h : prnOk a b c = true) : rdcM (prnS a b c) = ⟨a, b, c, 0⟩ := by
  obtain ⟨x, y, z, rfl, rfl, rfl, h1, h2, h3⟩ := prn_nat h
  obtain ⟨p1, p2, p3⟩ := prn_parts h
  obtain ⟨u1, u2⟩ := undec_dec x 4611686018427387904 h1 (by omega)
  obtain ⟨u3, u4⟩ := undec_dec y 4611686018427387904 h2 (by omega)
  obtain ⟨u5, u6⟩ := undec_dec z 4611686018427387904 h3 (by omega)
  unfold rdcM
  rw [p1, p2, p3, u1, u2, u3, u4, u5, u6, if_neg (by simp), if_neg (by simp), if_neg (by simp), if_neg]
  have : prnE x y z = 0 := by unfold prnE; rw [if_pos h]
  simp [this]
theorem rdc_or (l : List UInt8) : rdcM l = ⟨0, 0, 0, 3⟩ ∨ ∃ a b c, rdcM l = ⟨a, b, c, 0⟩ ∧ prnOk a b c = true ∧ prnS a b c = l := by
  unfold rdcM
  split
  · exact .inl rfl
  · split
    · exact .inl rfl
    · split
      · exact .inl rfl
      · split
        · exact .inl rfl
        · rename_i h
          refine .inr ⟨_, _, _, rfl, ?_, ?_⟩
          · have h1 : prnE (undecV (rdA l) 4611686018427387904) (undecV (rdB l) 4611686018427387904) (undecV (rdC l) 4611686018427387904) = 0 := by
              by_cases hz : prnE (undecV (rdA l) 4611686018427387904) (undecV (rdB l) 4611686018427387904) (undecV (rdC l) 4611686018427387904) = 0
              · exact hz
              · exact absurd (Or.inl hz) h
            unfold prnE at h1
            split at h1
            · assumption
            · cases h1
          · by_cases hz : prnS (undecV (rdA l) 4611686018427387904) (undecV (rdB l) 4611686018427387904) (undecV (rdC l) 4611686018427387904) = l
            · exact hz
            · exact absurd (Or.inr hz) h
theorem prnE_iff (a b c : Int) : prnE a b c = 0 ↔ prnOk a b c = true := by
  unfold prnE
  split
  · rename_i h; simp [h]
  · rename_i h; simp [h]
theorem prn_inj {a b c a' b' c' : Int} (h : prnOk a b c = true) (h' : prnOk a' b' c' = true) : prnS a b c = prnS a' b' c' ↔ (a = a' ∧ b = b' ∧ c = c') := by
  constructor
  · intro e
    have h1 := rdc_ok h
    rw [e, rdc_ok h'] at h1
    injection h1 with e1 e2 e3
    exact ⟨e1.symm, e2.symm, e3.symm⟩
  · rintro ⟨rfl, rfl, rfl⟩; rfl
end Go.Proofs.YtpimfoohpfkciaaDoor

/- Layers 1 and 10: the document's Undec and Frame. No conditions but on lengths. -/
namespace Go.Proofs.YtpimfoohpfkciaaDoor
open Go.RowKit Go.Shelf

theorem digV_dec {c : UInt8} (h : 48 ≤ c.toNat ∧ c.toNat ≤ 57) : digV c = (c.toNat : Int) - 48 := by
  unfold digV
  rw [if_pos h]
/-- where the document's loop over digits stands -/
def UStage (l : List UInt8) (k : Nat) (n : Int) (b : Bool) : Prop :=
  (l.take k).all decB = true ∧ 0 ≤ n ∧ n ≤ 4611686018427387913 ∧ ((b = true ∧ gatherM 10 l 0 = none) ∨ (b = false ∧ ((gatherM 10 l 0 = gatherM 10 (l.drop k) n ∧ n ≤ 4611686018427387904) ∨ (gatherM 10 l 0 = none ∧ 4611686018427387904 < n))))

end Go.Proofs.YtpimfoohpfkciaaDoor

/- Layer 16: the document's Dec, Print, Read. No conditions but on lengths. -/
namespace Go.Proofs.YtpimfoohpfkciaaDoor
open Go.RowKit Go.Shelf

theorem dig_cut16 {r : Nat} (h : r < 10) : (⟨#[48, 49, 50, 51, 52, 53, 54, 55, 56, 57, 97, 98, 99, 100, 101, 102]⟩ : ByteArray).extract r (r + 1) = S [UInt8.ofNat (48 + r)] := by
  have : ∀ r : Fin 10, (⟨#[48, 49, 50, 51, 52, 53, 54, 55, 56, 57, 97, 98, 99, 100, 101, 102]⟩ : ByteArray).extract r.1 (r.1 + 1) = S [UInt8.ofNat (48 + r.1)] := by decide +kernel
  exact this ⟨r, h⟩
def decP (n : Nat) : List UInt8 := if 0 < n then Lib.decDigits n else []
theorem decP_step (n : Nat) (h : 0 < n) : decP n = decP (n / 10) ++ [UInt8.ofNat (48 + n % 10)] := by
  have := decI_step false n (.inr h)
  unfold decI at this
  unfold decP
  simpa using this
theorem dec_first (n : Nat) : Lib.decDigits n = decP (n / 10) ++ [UInt8.ofNat (48 + n % 10)] := by
  have := decI_step true n (.inl rfl)
  unfold decI at this
  unfold decP
  simpa using this

end Go.Proofs.YtpimfoohpfkciaaDoor

/- Layer 1: numbers in base 16 are written: FormatInt at base 16, Hexnum, the document's. No conditions but on the library's table. -/
namespace Go.Proofs.YtpimfoohpfkciaaDoor
open Go.RowKit Go.Shelf

def digL : List UInt8 := [48, 49, 50, 51, 52, 53, 54, 55, 56, 57, 97, 98, 99, 100, 101, 102]
def hexD (r : Nat) : UInt8 := digL.getD r 0
/-- the digits of a number in base 16; of 0: none -/
def hexP (n : Nat) : List UInt8 := if _ : 0 < n then hexP (n / 16) ++ [hexD (n % 16)] else []
termination_by n
decreasing_by omega
def hexL (n : Nat) : List UInt8 := hexP (n / 16) ++ [hexD (n % 16)]
theorem hexP_pos {n : Nat} (h : 0 < n) : hexP n = hexP (n / 16) ++ [hexD (n % 16)] := by rw [hexP, dif_pos h]
theorem hexL_pos {n : Nat} (h : 0 < n) : hexP n = hexL n := hexP_pos h
theorem hexP_zero : hexP 0 = [] := by rw [hexP, dif_neg (by omega)]
theorem hex_cut16 {r : Nat} (h : r < 16) : (⟨#[48, 49, 50, 51, 52, 53, 54, 55, 56, 57, 97, 98, 99, 100, 101, 102]⟩ : ByteArray).extract r (r + 1) = S [hexD r] := by
  have : ∀ r : Fin 16, (⟨#[48, 49, 50, 51, 52, 53, 54, 55, 56, 57, 97, 98, 99, 100, 101, 102]⟩ : ByteArray).extract r.1 (r.1 + 1) = S [hexD r.1] := by decide +kernel
  exact this ⟨r, h⟩
theorem hexP_len : ∀ (k n : Nat), n < 16 ^ k → (hexP n).length ≤ k
  | 0, n, h => by
    have : n = 0 := by simpa using h
    subst this
    rw [hexP_zero]; simp
  | k + 1, n, h => by
    rcases Nat.eq_zero_or_pos n with rfl | hn
    · rw [hexP_zero]; simp
    · have := hexP_len k (n / 16) (by rw [Nat.pow_succ] at h; omega)
      rw [hexP_pos hn, List.length_append]
      simp
      omega
theorem hexL_len {n : Nat} (h : n < 9223372036854775808) : (hexL n).length ≤ 16 := by
  have := hexP_len 15 (n / 16) (by have : (16 : Nat) ^ 15 = 1152921504606846976 := by decide
                                   omega)
  unfold hexL
  rw [List.length_append]
  simp
  omega
theorem nat_mod16 (m : Nat) : (m : Int).tmod 16 = ((m % 16 : Nat) : Int) := by
  rw [Int.tmod_eq_emod_of_nonneg (by omega)]; omega
theorem nat_div16 (m : Nat) : (m : Int).tdiv 16 = ((m / 16 : Nat) : Int) := by
  rw [Int.tdiv_eq_ediv_of_nonneg (by omega)]; omega

/-- bits.TrailingZeros64's table -/
def db64 : List Int := [0, 1, 56, 2, 57, 49, 28, 3, 61, 58, 42, 50, 38, 29, 17, 4, 62, 47, 59, 36, 45, 43, 51, 22, 53, 39, 33, 30, 24, 18, 12, 5, 63, 55, 48, 27, 60, 41, 37, 16, 46, 35, 44, 21, 52, 32, 23, 11, 54, 26, 40, 15, 34, 20, 31, 10, 25, 14, 19, 9, 13, 8, 7, 6]
def P64 (w : World) : Prop := Lib.TabIs Tryd.prog w "math/bits.deBruijn64tab" .u8 db64
theorem P64.keep0 {w w' : World} (h : P64 w) (k : Keep [] w w') : P64 w' := by
  unfold P64 Lib.TabIs World.var? at *
  cases hg : Tryd.prog.globalNamed "math/bits.deBruijn64tab" with
  | none => simp [hg] at h
  | some g =>
    try rw [hg] at h
    simp only [Option.bind_some] at h ⊢
    cases ho : w.heap[g]? with
    | none => rw [ho] at h; simp at h
    | some o =>
      rw [k.heap ho (by simp)]
      rw [ho] at h
      exact h
end Go.Proofs.YtpimfoohpfkciaaDoor

/- Layer 11, plain laws: a body as it is written in chunks, and what a reader makes of it. No program. No conditions but those that each theorem states. -/
namespace Go.Proofs.YtpimfoohpfkciaaDoor
open Go.RowKit

/-- chunks of at most k + 1 bytes -/
def wrL (k : Nat) (s : List UInt8) : List UInt8 :=
  if _h : s = [] then [] else hexL (min (k + 1) s.length) ++ crlfC ++ (s.take (k + 1) ++ crlfC) ++ wrL k (s.drop (k + 1))
termination_by s.length
decreasing_by
  cases s with
  | nil => exact absurd rfl _h
  | cons => simp; omega
def endC : List UInt8 := [48, 13, 10, 13, 10]
theorem wrL_nil (k : Nat) : wrL k [] = [] := by rw [wrL, dif_pos rfl]
theorem wrL_cons (k : Nat) {s : List UInt8} (h : s ≠ []) : wrL k s = hexL (min (k + 1) s.length) ++ crlfC ++ (s.take (k + 1) ++ crlfC) ++ wrL k (s.drop (k + 1)) := by rw [wrL, dif_neg h]
theorem len_pos {s : List UInt8} (h : s ≠ []) : 0 < s.length := by cases s with | nil => exact absurd rfl h | cons => simp
theorem wrL_len (k : Nat) : ∀ (n : Nat) (s : List UInt8), s.length ≤ n → s.length ≤ 1048576 → (wrL k s).length ≤ 21 * s.length
  | n, s, hn, h => by
    by_cases h0 : s = []
    · subst h0; rw [wrL_nil]; simp
    · have hp := len_pos h0
      match n, hn with
      | 0, hn => omega
      | n + 1, hn =>
        have hd : (s.drop (k + 1)).length = s.length - (k + 1) := List.length_drop
        have ih := wrL_len k n (s.drop (k + 1)) (by omega) (by omega)
        have hx := hexL_len (n := min (k + 1) s.length) (by omega)
        have ht : (s.take (k + 1)).length = min (k + 1) s.length := List.length_take
        rw [wrL_cons k h0]
        simp only [List.length_append, ht, crlfC, List.length_cons, List.length_nil]
        omega
theorem wrL_clamp (k j : Nat) (s : List UInt8) (h : s.length ≤ k + 1) (h2 : s.length ≤ j + 1) : wrL k s = wrL j s := by
  by_cases h0 : s = []
  · subst h0; rw [wrL_nil, wrL_nil]
  · rw [wrL_cons k h0, wrL_cons j h0, List.take_of_length_le h, List.take_of_length_le h2, List.drop_eq_nil_of_le h, List.drop_eq_nil_of_le h2, wrL_nil, wrL_nil, Nat.min_eq_right h, Nat.min_eq_right h2]

theorem hexD_ok {r : Nat} (h : r < 16) : digOk (hexD r) = true ∧ digV (hexD r) = (r : Int) ∧ hexD r ≠ 10 := by
  have : ∀ r : Fin 16, digOk (hexD r.1) = true ∧ digV (hexD r.1) = ((r.1 : Nat) : Int) ∧ hexD r.1 ≠ 10 := by decide +kernel
  exact this ⟨r, h⟩
theorem hexP_ok (n : Nat) : (hexP n).all digOk = true ∧ hexN (hexP n) 0 = (n : Int) ∧ (10 : UInt8) ∉ hexP n := by
  induction n using Nat.strongRecOn with
  | _ n ih =>
    rcases Nat.eq_zero_or_pos n with rfl | hn
    · rw [hexP_zero]; exact ⟨rfl, rfl, by simp⟩
    · obtain ⟨h1, h2, h3⟩ := ih (n / 16) (by omega)
      obtain ⟨d1, d2, d3⟩ := hexD_ok (r := n % 16) (Nat.mod_lt _ (by omega))
      rw [hexP_pos hn]
      refine ⟨by rw [List.all_append, h1]; simp [d1], ?_, ?_⟩
      · unfold hexN at h2 ⊢
        rw [List.foldl_append, h2]
        simp only [List.foldl_cons, List.foldl_nil]
        rw [d2]; omega
      · simp only [List.mem_append, List.mem_singleton, not_or]
        exact ⟨h3, fun h => d3 h.symm⟩
theorem hexL_ok (n : Nat) : (hexL n).all digOk = true ∧ hexN (hexL n) 0 = (n : Int) ∧ (10 : UInt8) ∉ hexL n := by
  rcases Nat.eq_zero_or_pos n with rfl | hn
  · have : hexL 0 = [48] := by unfold hexL; rw [show 0 / 16 = 0 from rfl, hexP_zero]; rfl
    rw [this]; decide
  · rw [← hexL_pos hn]; exact hexP_ok n
theorem hexL_ne (n : Nat) : hexL n ≠ [] := by unfold hexL; simp
theorem num_hex (n : Nat) (m : Int) (hn : n ≤ 1048576) : numE (hexL n) m = (if m < n then 4 else 0) ∧ ((n : Int) ≤ m → numV (hexL n) m = n) := by
  obtain ⟨h1, h2, _⟩ := hexL_ok n
  have h3 := hexL_len (n := n) (by omega)
  have hne := hexL_ne n
  have hr : numRest (hexL n) = [] := by
    rw [numRest_at (k := (hexL n).length) (Nat.le_refl _) (by rw [List.take_length]; exact h1) (fun b hb => by have := (List.getElem?_eq_some_iff.1 hb).1; omega), List.drop_length]
  have ht : numT (hexL n) = hexL n := by rw [numT_at (k := (hexL n).length) (Nat.le_refl _) (by rw [hr, List.drop_length]), List.take_length]
  have hok : hexOk (hexL n) = true := by
    unfold hexOk
    rw [h1, decide_eq_true h3]
    cases hx : hexL n with
    | nil => exact absurd hx hne
    | cons => rfl
  obtain ⟨b1, b2⟩ := bound_fold (hexL n) m
  rw [h2] at b1 b2
  have hu : unhexE (hexL n) m = if m < (n : Int) then 14 else 0 := by
    unfold unhexE
    rw [hok, if_pos rfl, b2]
    by_cases hm : m < (n : Int)
    · rw [if_pos hm, if_pos (show (4611686018427387904 : Int) < (n : Int) ∨ m < (n : Int) from Or.inr hm)]
    · rw [if_neg hm, if_neg (by omega)]
  have hv : (n : Int) ≤ m → unhexV (hexL n) m = (n : Int) := fun hm => by
    unfold unhexV
    rw [hok, if_pos rfl, b1, if_neg (by omega)]
  have hro : restOk [] = true := rfl
  unfold numE numV
  rw [hr, ht, hro, if_pos rfl, hu]
  refine ⟨?_, hv⟩
  by_cases hm : m < (n : Int)
  · rw [if_pos hm, if_pos rfl, if_pos hm]
  · rw [if_neg hm, if_neg (by decide), if_neg hm]
/-- a line that stands first -/
theorem ln_first {t rest : List UInt8} (ht : (10 : UInt8) ∉ t) (hl : t.length ≤ 254) : lnC (t ++ crlfC ++ rest) = ⟨t, 0, rest⟩ := by
  have hg : ∀ j, j < t.length → (t ++ crlfC ++ rest)[j]? = t[j]? := fun j hj => by
    rw [List.append_assoc, List.getElem?_append_left hj]
  have e1 : (t ++ crlfC ++ rest)[t.length]? = some 13 := by rw [List.append_assoc, List.getElem?_append_right (Nat.le_refl _), Nat.sub_self]; rfl
  have e2 : (t ++ crlfC ++ rest)[t.length + 1]? = some 10 := by rw [List.append_assoc, List.getElem?_append_right (by omega), show t.length + 1 - t.length = 1 by omega]; rfl
  have hi : Lib.indexByte ((t ++ crlfC ++ rest).take 256) 10 = ((t.length + 1 : Nat) : Int) := by
    refine indexByte_at ?_ (fun j hj => ?_)
    · rw [List.getElem?_take, if_pos (by omega)]; exact e2
    · rw [List.getElem?_take, if_pos (by omega)]
      rcases Nat.lt_or_ge j t.length with h | h
      · rw [hg j h]; intro hh; exact ht (List.mem_of_getElem? hh)
      · rw [show j = t.length by omega, e1]; decide
  have hl2 : (t ++ crlfC ++ rest).take (t.length + 1 + 1) = t ++ crlfC := by
    rw [List.take_append_of_le_length (by simp [crlfC])]
    exact List.take_of_length_le (by simp [crlfC])
  have hd : (t ++ crlfC ++ rest).drop (t.length + 1 + 1) = rest := by
    have : t.length + 1 + 1 = (t ++ crlfC).length := by simp [crlfC]
    rw [this, List.drop_left]
  have hs : Lib.hasSuffix (t ++ crlfC) crlfC = true := by unfold Lib.hasSuffix; rw [List.isSuffixOf_iff_suffix]; exact List.suffix_append _ _
  rw [line_at hi, hl2, hd, if_pos hs]
  have : Lib.trimSuffix (t ++ crlfC) crlfC = t := by
    unfold Lib.trimSuffix
    rw [if_pos hs, List.length_append, show t.length + crlfC.length - crlfC.length = t.length by omega, List.take_left]
  rw [this]

theorem runs_more' {c c1 d : Ck} {e : Int} (h : stepM c = (c1, 0)) (hr : Runs c1 d e) : Runs c d e := .more (by rw [h]) (by rw [h]; exact hr)
theorem runs_stop' {c d : Ck} {e : Int} (h : stepM c = (d, e)) (he : e ≠ 0) : Runs c d e := by
  have := Runs.stop (c := c) (by rw [h]; exact he)
  rw [h] at this
  exact this
theorem begin_hex {lf most : Nat} {D rest : List UInt8} {er : Int} {n : Nat} (hn : n ≤ 1048576) (hm : D.length + n ≤ most) :
    stepM ⟨0, lf, most, 0, hexL n ++ crlfC ++ rest, D, er⟩ = (⟨if n = 0 then 3 else 1, n, most, 0, rest, D, er⟩, 0) := by
  have hl := ln_first (t := hexL n) (rest := rest) (hexL_ok n).2.2 (by have := hexL_len (n := n) (by omega); omega)
  obtain ⟨n1, n2⟩ := num_hex n ((most : Int) - D.length) hn
  rw [if_neg (by omega)] at n1
  have n2 := n2 (by omega)
  rw [step0 rfl]
  unfold beginM
  dsimp only
  rw [hl]
  dsimp only
  rw [if_neg (by simp), n1, n2, if_neg (by simp)]
  congr 2
  by_cases h : n = 0
  · rw [if_pos h, if_pos (by omega)]
  · rw [if_neg h, if_neg (by omega)]
theorem begin_long {lf most : Nat} {D rest : List UInt8} {er : Int} {n : Nat} (hn : n ≤ 1048576) (hm : most < D.length + n) :
    stepM ⟨0, lf, most, 0, hexL n ++ crlfC ++ rest, D, er⟩ = (⟨0, lf, most, 0, rest, D, er⟩, 4) := by
  have hl := ln_first (t := hexL n) (rest := rest) (hexL_ok n).2.2 (by have := hexL_len (n := n) (by omega); omega)
  obtain ⟨n1, _⟩ := num_hex n ((most : Int) - D.length) hn
  rw [if_pos (by omega)] at n1
  rw [step0 rfl]
  unfold beginM
  dsimp only
  rw [hl]
  dsimp only
  rw [if_neg (by simp), n1, if_pos (by simp)]
theorem data_hex {most : Nat} {D t rest : List UInt8} {er : Int} {n : Nat} (hn : t.length = n) :
    stepM ⟨1, n, most, 0, t ++ rest, D, er⟩ = (⟨2, 0, most, 0, rest, D ++ t, er⟩, 0) := by
  subst hn
  rw [step1 rfl, data_eq _ t.length (by show min t.length (t ++ rest).length = _; simp), if_neg (by show ¬ 0 < t.length - t.length; omega)]
  show (({ st := 2, left := t.length - t.length, most := most, flds := 0, inp := (t ++ rest).drop t.length, dat := D ++ (t ++ rest).take t.length, err := er } : Ck), (0 : Int)) = _
  rw [List.drop_left, List.take_left, Nat.sub_self]
theorem close_hex {lf most : Nat} {D rest : List UInt8} {er : Int} : stepM ⟨2, lf, most, 0, crlfC ++ rest, D, er⟩ = (⟨0, lf, most, 0, rest, D, er⟩, 0) := by
  rw [step2 rfl]
  unfold closeM
  have h1 : (crlfC ++ rest).take 2 = crlfC := rfl
  have h2 : crlfC.take (crlfC ++ rest).length = crlfC := List.take_of_length_le (by simp)
  have h3 : (crlfC ++ rest).drop 2 = rest := rfl
  dsimp only
  rw [h1, h2, h3, if_neg (by simp), if_neg (by simp [crlfC])]
theorem runs_end {lf most : Nat} {D more : List UInt8} {er : Int} (hm : D.length ≤ most) : Runs ⟨0, lf, most, 0, endC ++ more, D, er⟩ ⟨4, 0, most, 0, more, D, er⟩ 17 := by
  have h48 : hexL 0 = [48] := by unfold hexL; rw [show 0 / 16 = 0 from rfl, hexP_zero]; rfl
  have hb := begin_hex (lf := lf) (most := most) (D := D) (rest := crlfC ++ more) (er := er) (n := 0) (by omega) (by omega)
  rw [h48] at hb
  refine runs_more' (c1 := ⟨3, 0, most, 0, crlfC ++ more, D, er⟩) hb ?_
  have hl := ln_first (t := []) (rest := more) (by simp) (by simp)
  rw [List.nil_append] at hl
  have ht : stepM ⟨3, 0, most, 0, crlfC ++ more, D, er⟩ = (⟨4, 0, most, 0, more, D, er⟩, 0) := by
    rw [step3 rfl]
    unfold trailM
    dsimp only
    rw [hl]
    dsimp only
    rw [if_neg (by simp), if_pos rfl]
  exact runs_more' ht (runs_stop' (step4 rfl) (by decide))
/-- one chunk -/
theorem runs_chunk {lf k most : Nat} {s D R : List UInt8} {er : Int} {d : Ck} {e : Int} (h0 : s ≠ []) (hl : s.length ≤ 1048576) (hm : D.length + min (k + 1) s.length ≤ most)
    (hr : Runs ⟨0, 0, most, 0, wrL k (s.drop (k + 1)) ++ R, D ++ s.take (k + 1), er⟩ d e) : Runs ⟨0, lf, most, 0, wrL k s ++ R, D, er⟩ d e := by
  have hp := len_pos h0
  have ht : (s.take (k + 1)).length = min (k + 1) s.length := List.length_take
  rw [wrL_cons k h0]
  have hb := begin_hex (lf := lf) (most := most) (D := D) (rest := s.take (k + 1) ++ (crlfC ++ (wrL k (s.drop (k + 1)) ++ R))) (er := er) (n := min (k + 1) s.length) (by omega) hm
  rw [if_neg (by omega)] at hb
  refine runs_more' (c1 := ⟨1, min (k + 1) s.length, most, 0, s.take (k + 1) ++ (crlfC ++ (wrL k (s.drop (k + 1)) ++ R)), D, er⟩) ?_ (runs_more' (data_hex ht) (runs_more' close_hex hr))
  rw [← hb]
  simp only [List.append_assoc]
theorem runs_write (k most : Nat) (more : List UInt8) (er : Int) : ∀ (n : Nat) (s D : List UInt8) (lf : Nat), s.length ≤ n → s.length ≤ 1048576 → D.length + s.length ≤ most →
    Runs ⟨0, lf, most, 0, wrL k s ++ (endC ++ more), D, er⟩ ⟨4, 0, most, 0, more, D ++ s, er⟩ 17
  | n, s, D, lf, hn, hl, hm => by
    by_cases h0 : s = []
    · subst h0
      rw [wrL_nil, List.append_nil, List.nil_append]
      exact runs_end (by simp at hm; exact hm)
    · have hp := len_pos h0
      match n, hn with
      | 0, hn => omega
      | n + 1, hn =>
        have hd : (s.drop (k + 1)).length = s.length - (k + 1) := List.length_drop
        have ht : (s.take (k + 1)).length = min (k + 1) s.length := List.length_take
        refine runs_chunk h0 hl (by omega) ?_
        have := runs_write k most more er n (s.drop (k + 1)) (D ++ s.take (k + 1)) 0 (by omega) (by omega) (by rw [List.length_append]; omega)
        rw [List.append_assoc, List.take_append_drop] at this
        exact this
theorem runs_long (k most : Nat) (more : List UInt8) (er : Int) : ∀ (n : Nat) (s D : List UInt8) (lf : Nat), s.length ≤ n → s.length ≤ 1048576 → D.length ≤ most → most < D.length + s.length →
    ∃ d, Runs ⟨0, lf, most, 0, wrL k s ++ more, D, er⟩ d 4 ∧ d.st = 0 ∧ d.most = most ∧ d.dat.length ≤ most
  | n, s, D, lf, hn, hl, hD, hm => by
    by_cases h0 : s = []
    · subst h0; simp at hm; omega
    · have hp := len_pos h0
      match n, hn with
      | 0, hn => omega
      | n + 1, hn =>
        have hd : (s.drop (k + 1)).length = s.length - (k + 1) := List.length_drop
        have ht : (s.take (k + 1)).length = min (k + 1) s.length := List.length_take
        by_cases hf : D.length + min (k + 1) s.length ≤ most
        · obtain ⟨d, hr, h1, h2, h3⟩ := runs_long k most more er n (s.drop (k + 1)) (D ++ s.take (k + 1)) 0 (by omega) (by omega) (by rw [List.length_append]; omega) (by rw [List.length_append]; omega)
          exact ⟨d, runs_chunk h0 hl hf hr, h1, h2, h3⟩
        · have hb := begin_long (lf := lf) (most := most) (D := D) (rest := s.take (k + 1) ++ (crlfC ++ (wrL k (s.drop (k + 1)) ++ more))) (er := er) (n := min (k + 1) s.length) (by omega) (by omega)
          refine ⟨_, runs_stop' (d := ⟨0, lf, most, 0, s.take (k + 1) ++ (crlfC ++ (wrL k (s.drop (k + 1)) ++ more)), D, er⟩) ?_ (by decide), rfl, rfl, hD⟩
          rw [← hb, wrL_cons k h0]
          simp only [List.append_assoc]
end Go.Proofs.YtpimfoohpfkciaaDoor

/- Layer 11, plain laws: what was written is read as it was, cut off it isn't whole, with a byte less allowed it is too long. No program. -/
namespace Go.Proofs.YtpimfoohpfkciaaDoor
open Go.RowKit

theorem addC_of_runs {c d : Ck} {s : List UInt8} {e : Int} (h0 : c.err = 0) (hok : c.ok) (hr : Runs (c.add s) d e) : addC c s = { d with err := if e = 17 then 0 else e } := by
  have h := addC_R (c := c) (s := s) (fun _ => hok)
  unfold AddR at h
  rw [if_neg (by simp [h0])] at h
  obtain ⟨d', e', hr', hc⟩ := h
  obtain ⟨rfl, rfl⟩ := runs_det hr hr'
  exact hc
theorem addC_rd {m : Int} (s : List UInt8) : Rdc m s (addC (ck0 m) s) := by
  have h := (rd_nil m).add (addC_R (c := ck0 m) (s := s) (fun _ => ck0_ok m))
  exact h.1 rfl
theorem addC_rq {m : Int} {all : List UInt8} {c : Ck} (h : Rq m all c) (s : List UInt8) : Rq m (all ++ s) (addC c s) := h.add (addC_R h.sound.1)
/-- all bytes of a body in chunks -/
def wrT (k : Nat) (s : List UInt8) : List UInt8 := wrL k s ++ endC
theorem back_full (k : Nat) (s more : List UInt8) (hs : s.length ≤ 1048576) : addC (ck0 (s.length : Nat)) (wrT k s ++ more) = ⟨4, 0, s.length, 0, more, s, 0⟩ := by
  have hr := runs_write k s.length more 0 s.length s [] 0 (Nat.le_refl _) hs (by simp)
  have e1 : (ck0 (s.length : Nat)).add (wrT k s ++ more) = ⟨0, 0, s.length, 0, wrL k s ++ (endC ++ more), [], 0⟩ := by
    unfold ck0 Ck.add wrT
    have : (max (s.length : Int) 0).toNat = s.length := by omega
    rw [this]
    simp
  rw [← e1] at hr
  rw [addC_of_runs rfl (ck0_ok _) hr]
  simp
theorem back_cut (k : Nat) (s : List UInt8) (hs : s.length ≤ 1048576) (j : Nat) (hj : j < (wrT k s).length) :
    (addC (ck0 (s.length : Nat)) ((wrT k s).take j)).err = 0 ∧ (addC (ck0 (s.length : Nat)) ((wrT k s).take j)).st ≠ 4 ∧ (addC (ck0 (s.length : Nat)) ((wrT k s).take j)).dat <+: s ∧ (addC (ck0 (s.length : Nat)) ((wrT k s).take j)).st ≤ 4 := by
  have hp := addC_rd (m := (s.length : Nat)) ((wrT k s).take j)
  have hf := addC_rd (m := (s.length : Nat)) (wrT k s)
  have hb := back_full k s [] hs
  rw [List.append_nil] at hb
  rw [hb] at hf
  generalize addC (ck0 (s.length : Nat)) ((wrT k s).take j) = d at *
  have hall : (wrT k s).take j ++ (wrT k s).drop j = wrT k s := List.take_append_drop _ _
  have hsd := hp.sound
  have h0 : d.err = 0 := by
    by_cases h : d.err = 0
    · exact h
    · rw [← hall] at hf
      have := (rd_prefix hp h hf).1
      exact this.symm
  have hadd := (hp.add (addC_R (c := d) (s := (wrT k s).drop j) (fun h => (hsd.1 h).1))).1 h0
  rw [hall] at hadd
  have heq := rd_det hf hadd
  have hok := (hsd.1 h0).1
  have hR := addC_R (c := d) (s := (wrT k s).drop j) (fun h => (hsd.1 h).1)
  unfold AddR at hR
  rw [if_neg (by simp [h0])] at hR
  obtain ⟨x, e, hr, hc⟩ := hR
  rw [← heq] at hc
  refine ⟨h0, fun h4 => ?_, ?_, hsd.2.2.2.1⟩
  · have h4' : (d.add ((wrT k s).drop j)).st = 4 := h4
    rcases runs_eq hr (step4 h4') with hh | hh
    · have := hh.1; simp at this
    · rw [hh.2.1] at hc
      have hi := congrArg Ck.inp hc
      have hl := congrArg List.length hi
      simp [Ck.add] at hl
      omega
  · have := (runs_ok hr (add_ok hok _)).2.2.2.2
    have hd := congrArg Ck.dat hc
    dsimp only at hd
    rw [hd]
    exact this
theorem back_long (k : Nat) (s : List UInt8) (hs : s.length ≤ 1048576) (h0 : s ≠ []) : (addC (ck0 ((s.length - 1 : Nat) : Int)) (wrT k s)).err = 4 ∧ (addC (ck0 ((s.length - 1 : Nat) : Int)) (wrT k s)).st = 0 ∧
    (addC (ck0 ((s.length - 1 : Nat) : Int)) (wrT k s)).inp.length + (addC (ck0 ((s.length - 1 : Nat) : Int)) (wrT k s)).dat.length ≤ (wrT k s).length ∧ ((addC (ck0 ((s.length - 1 : Nat) : Int)) (wrT k s)).most : Int) ≤ 1048576 := by
  have hp := len_pos h0
  obtain ⟨d, hr, h1, h2, h3⟩ := runs_long k (s.length - 1) endC 0 s.length s [] 0 (Nat.le_refl _) hs (by simp) (by simp; omega)
  have e1 : (ck0 ((s.length - 1 : Nat) : Int)).add (wrT k s) = ⟨0, 0, s.length - 1, 0, wrL k s ++ endC, [], 0⟩ := by
    unfold ck0 Ck.add wrT
    have : (max ((s.length - 1 : Nat) : Int) 0).toNat = s.length - 1 := by omega
    rw [this]
    simp
  have hsd := (addC_rd (m := ((s.length - 1 : Nat) : Int)) (wrT k s)).sound
  rw [← e1] at hr
  have hx := addC_of_runs (c := ck0 ((s.length - 1 : Nat) : Int)) rfl (ck0_ok _) hr
  refine ⟨by rw [hx]; simp, by rw [hx]; exact h1, hsd.2.2.1, by rw [hsd.2.1]; omega⟩
theorem addC_bad {c : Ck} (h : c.err ≠ 0) (s : List UInt8) : addC c s = c := by unfold addC; rw [if_pos h]
theorem wrT_len (k : Nat) (s : List UInt8) (h : s.length ≤ 1048576) : (wrT k s).length ≤ 21 * s.length + 5 := by
  have := wrL_len k s.length s (Nat.le_refl _) h
  unfold wrT
  simp [endC]
  omega
theorem wrT_pos (k : Nat) (s : List UInt8) : 5 ≤ (wrT k s).length := by unfold wrT; simp [endC]
end Go.Proofs.YtpimfoohpfkciaaDoor

/- Layer 12, plain laws: however the bytes are cut the same requests come of them. No program. No conditions but those that each theorem states. -/
namespace Go.Proofs.YtpimfoohpfkciaaDoor
open Go.RowKit

theorem addC_cases {c : Ck} (s : List UInt8) (h0 : c.err = 0) (hk : c.ok) : ∃ d e, Runs (c.add s) d e ∧ addC c s = { d with err := if e = 17 then 0 else e } ∧ d.err = 0 ∧ e ≠ 0 := by
  have hr := addC_R (c := c) (s := s) (fun _ => hk)
  unfold AddR at hr
  rw [if_neg (by simp [h0])] at hr
  obtain ⟨d, e, hr, hc⟩ := hr
  exact ⟨d, e, hr, hc, by rw [(runs_ok hr (add_ok hk s)).2.2.1]; exact h0, runs_ne hr⟩
theorem add_add (c : Ck) (s t : List UInt8) : (c.add s).add t = c.add (s ++ t) := by simp [Ck.add]
theorem addC_bad_app {c : Ck} (s t : List UInt8) (h0 : c.err = 0) (hk : c.ok) (he : (addC c s).err ≠ 0) : (addC c (s ++ t)).err = (addC c s).err := by
  obtain ⟨d, e, hr, hc, hd, hn⟩ := addC_cases s h0 hk
  have h17 : e ≠ 17 := by rintro rfl; rw [hc] at he; exact he rfl
  have ha := (runs_app hr t).1 h17
  rw [add_add] at ha
  rw [addC_of_runs h0 hk ha, hc]
theorem addC_ok_app {c : Ck} (s t : List UInt8) (h0 : c.err = 0) (hk : c.ok) (he : (addC c s).err = 0) : addC c (s ++ t) = addC (addC c s) t := by
  obtain ⟨d, e, hr, hc, hd, hn⟩ := addC_cases s h0 hk
  have h17 : e = 17 := by
    rw [hc] at he
    simp only at he
    split at he
    · assumption
    · exact absurd he hn
  subst h17
  have hcd : addC c s = d := by rw [hc, if_pos rfl, ← hd]
  have hkd := (runs_ok hr (add_ok hk s)).1 rfl
  obtain ⟨d2, e2, hr2, hc2, _, _⟩ := addC_cases t hd hkd
  have ha := (runs_app hr t).2 rfl d2 e2 hr2
  rw [add_add] at ha
  rw [addC_of_runs h0 hk ha, hcd, hc2]
theorem addC_end {d : Ck} (t : List UInt8) (h0 : d.err = 0) (hk : d.ok) (h4 : d.st = 4) : (addC d t).inp = d.inp ++ t ∧ (addC d t).st = 4 ∧ (addC d t).err = 0 := by
  have hr : Runs (d.add t) (d.add t) 17 := runs_stop' (step4 h4) (by decide)
  rw [addC_of_runs h0 hk hr]
  exact ⟨rfl, h4, rfl⟩
def InS.add (p : InS) (t : List UInt8) : InS := { p with inp := p.inp ++ t }
theorem inS_ext {a b : InS} (h1 : a.inp = b.inp) (h2 : a.held = b.held) (h3 : a.req = b.req) (h4 : a.skip = b.skip) (h5 : a.chk = b.chk) (h6 : a.st = b.st) : a = b := by
  cases a; cases b; simp only at h1 h2 h3 h4 h5 h6; subst h1 h2 h3 h4 h5 h6; rfl
theorem nxR_ext {a b : NxR} (h1 : a.p = b.p) (h2 : a.q = b.q) (h3 : a.s = b.s) : a = b := by
  cases a; cases b; simp only at h1 h2 h3; subst h1 h2 h3; rfl
/-- what a result says of the same with more bytes behind -/
structure Tells (a : NxR) (b : NxR) (again : NxR) (t : List UInt8) : Prop where
  yes : a.s = 200 → b = ⟨a.p.add t, a.q, 200⟩
  no : a.s ≠ 200 → a.s ≠ 0 → b.s = a.s ∧ b.q = req0 ∧ a.q = req0
  wait : a.s = 0 → b = again ∧ a.p.st = 0
theorem tail_app {p : InS} {q : Req} (h : p.ok) (h0 : p.st = 0) (hq : p.req = some q) (t : List UInt8) : Tells (tailI p q) (tailI (p.add t) q) (tailI ((tailI p q).p.add t) q) t ∧ ((tailI p q).s = 0 → (tailI p q).p.req = some q) := by
  have hal : (p.add t).inp.length = p.inp.length + t.length := by simp [InS.add]
  cases hc : p.chk with
  | none =>
    rcases Nat.lt_or_ge p.inp.length p.skip with hlt | hge
    · have e1 := tail_none' q hc hlt
      rw [e1]
      refine ⟨⟨fun hh => by simp at hh, fun _ hh => absurd rfl hh, fun _ => ⟨?_, h0⟩⟩, fun _ => hq⟩
      dsimp only
      rcases Nat.lt_or_ge (p.add t).inp.length p.skip with h2 | h2
      · rw [tail_none' (p := p.add t) q hc h2, tail_none' (p := InS.add { p with inp := [], held := p.held + p.inp.length, skip := p.skip - p.inp.length } t) q hc (by simp only [InS.add, List.nil_append]; omega)]
        refine nxR_ext (inS_ext rfl ?_ rfl ?_ rfl rfl) rfl rfl
        · simp [InS.add]; omega
        · simp [InS.add]; omega
      · rw [tail_none (p := p.add t) q hc h2, tail_none (p := InS.add { p with inp := [], held := p.held + p.inp.length, skip := p.skip - p.inp.length } t) q hc (by simp only [InS.add, List.nil_append]; omega)]
        refine nxR_ext (inS_ext ?_ rfl rfl rfl rfl rfl) rfl rfl
        simp only [InS.add, List.nil_append]
        rw [List.drop_append, List.drop_eq_nil_of_le (by omega), List.nil_append]
    · have e1 := tail_none q hc hge
      rw [e1, tail_none (p := p.add t) q hc (by show p.skip ≤ (p.add t).inp.length; omega)]
      refine ⟨⟨fun _ => ?_, fun hh => absurd rfl hh, fun hh => by simp at hh⟩, fun hh => by simp at hh⟩
      refine nxR_ext (inS_ext ?_ rfl rfl rfl rfl rfl) rfl rfl
      simp only [InS.add]
      exact List.drop_append_of_le_length hge
  | some c =>
    obtain ⟨k1, k2, k3, k4⟩ := h.chk c hc
    have ke := h.bad c h0 hc
    have kk := k1 ke
    have d5 := addC_ne17 (c := c) p.inp (by rw [ke]; decide)
    have d6 := addC_ne17 (c := c) (p.inp ++ t) (by rw [ke]; decide)
    have d4 := (addC_sound p.inp k1 k4).2.2.2
    by_cases e1 : (addC c p.inp).err = 0
    · have hcat := addC_ok_app p.inp t ke kk e1
      by_cases e2 : (addC c p.inp).st = 4
      · obtain ⟨f1, f2, f3⟩ := addC_end t e1 (d4 e1) e2
        rw [← hcat] at f1 f2 f3
        rw [tail_done q hc e1 e2, tail_done (p := p.add t) q hc f3 f2]
        refine ⟨⟨fun _ => ?_, fun hh => absurd rfl hh, fun hh => by simp at hh⟩, fun hh => by simp at hh⟩
        exact nxR_ext (inS_ext f1 rfl rfl rfl rfl rfl) rfl rfl
      · rw [tail_more q hc e1 e2]
        refine ⟨⟨fun hh => by simp at hh, fun _ hh => absurd rfl hh, fun _ => ⟨?_, h0⟩⟩, fun _ => hq⟩
        dsimp only
        have hi : (p.add t).inp = p.inp ++ t := rfl
        have hcA : (p.add t).chk = some c := hc
        have hin : (InS.add { p with inp := [], held := p.held + p.inp.length, chk := some (addC c p.inp) } t).inp = t := rfl
        by_cases g1 : (addC c (p.inp ++ t)).err = 0
        · by_cases g2 : (addC c (p.inp ++ t)).st = 4
          · rw [tail_done (p := p.add t) q hcA g1 g2, tail_done (p := InS.add { p with inp := [], held := p.held + p.inp.length, chk := some (addC c p.inp) } t) (c := addC c p.inp) q rfl (by rw [hin, ← hcat]; exact g1) (by rw [hin, ← hcat]; exact g2)]
            exact nxR_ext (inS_ext (by rw [hi, hin, hcat]) rfl rfl rfl rfl rfl) rfl rfl
          · rw [tail_more (p := p.add t) q hcA g1 g2, tail_more (p := InS.add { p with inp := [], held := p.held + p.inp.length, chk := some (addC c p.inp) } t) (c := addC c p.inp) q rfl (by rw [hin, ← hcat]; exact g1) (by rw [hin, ← hcat]; exact g2)]
            refine nxR_ext (inS_ext rfl ?_ rfl rfl (by rw [hi, hin, hcat]) rfl) rfl rfl
            rw [hi, hin]; simp [InS.add]; omega
        · rw [tail_bad (p := p.add t) q hcA g1 d6, tail_bad (p := InS.add { p with inp := [], held := p.held + p.inp.length, chk := some (addC c p.inp) } t) (c := addC c p.inp) q rfl (by rw [hin, ← hcat]; exact g1) (by rw [hin, ← hcat]; exact d6)]
          refine nxR_ext (inS_ext rfl ?_ rfl rfl (by rw [hi, hin, hcat]) (by rw [hi, hin, hcat])) rfl (by rw [hi, hin, hcat])
          rw [hi, hin]; simp [InS.add]; omega
    · have hb := addC_bad_app p.inp t ke kk e1
      have ht := told_ne (long := 413) e1 d5 (by decide)
      rw [tail_bad q hc e1 d5, tail_bad (p := p.add t) (c := c) q hc (by show (addC c (p.inp ++ t)).err ≠ 0; rw [hb]; exact e1) d6]
      have ht2 : toldE (addC c p.inp).err 413 ≠ 200 := by unfold toldE; split; (simp); split <;> simp
      refine ⟨⟨fun hh => absurd hh ht2, fun _ _ => ⟨?_, rfl, rfl⟩, fun hh => absurd hh ht⟩, fun hh => absurd hh ht⟩
      show toldE (addC c (p.inp ++ t)).err 413 = toldE (addC c p.inp).err 413
      rw [hb]
theorem head_app (l t : List UInt8) : headM l = hr0 0 ∨ headM (l ++ t) = headM l := by
  rcases split_append l t with h | h
  · left
    unfold headM
    rw [if_pos (by rw [h]; decide), h]
    rfl
  · right
    unfold headM
    rw [h]
theorem next_some {p : InS} {q : Req} (h0 : p.st = 0) (hq : p.req = some q) : nextI p = tailI p q := by unfold nextI; rw [if_neg (by simp [h0]), hq]
theorem next_none {p : InS} (h0 : p.st = 0) (hq : p.req = none) : nextI p = if (headM p.inp).s ≠ 0 then ⟨{ p with st := (headM p.inp).s }, req0, (headM p.inp).s⟩ else if (headM p.inp).got then tailI (headed p (headM p.inp)) (headM p.inp).q else ⟨p, req0, 0⟩ := by
  unfold nextI; rw [if_neg (by simp [h0]), hq]
theorem next_app {p : InS} (h : p.ok) (h0 : p.st = 0) (t : List UInt8) : Tells (nextI p) (nextI (p.add t)) (nextI ((nextI p).p.add t)) t := by
  cases hr : p.req with
  | some q =>
    have ha := tail_app h h0 hr t
    rw [next_some h0 hr, next_some (p := p.add t) h0 hr]
    refine ⟨ha.1.yes, ha.1.no, fun hs => ?_⟩
    have hw := ha.1.wait hs
    rw [next_some (p := (tailI p q).p.add t) hw.2 (ha.2 hs)]
    exact hw
  | none =>
    have hrA : (p.add t).req = none := hr
    have h0A : (p.add t).st = 0 := h0
    by_cases hs : (headM p.inp).s = 0
    · cases hg : (headM p.inp).got with
      | false =>
        have e1 : nextI p = ⟨p, req0, 0⟩ := by rw [next_none h0 hr, if_neg (by simp [hs]), hg, if_neg (by simp)]
        rw [e1]
        refine ⟨fun hh => by simp at hh, fun _ hh => absurd rfl hh, fun _ => ⟨rfl, h0⟩⟩
      | true =>
        have hA : headM (p.inp ++ t) = headM p.inp := by
          rcases head_app p.inp t with hx | hx
          · rw [hx] at hg; cases hg
          · exact hx
        have hok := headed_ok h h0 hr hg
        have hb := (head_bounds p.inp).2.1 hg
        have ha := tail_app hok h0 (q := (headM p.inp).q) rfl t
        have hAi : headM (p.add t).inp = headM p.inp := hA
        have hhd : headed (p.add t) (headM p.inp) = (headed p (headM p.inp)).add t := by
          refine inS_ext ?_ rfl rfl rfl rfl rfl
          exact List.drop_append_of_le_length hb
        have e1 : nextI p = tailI (headed p (headM p.inp)) (headM p.inp).q := by rw [next_none h0 hr, if_neg (by simp [hs]), hg, if_pos rfl]
        have e2 : nextI (p.add t) = tailI ((headed p (headM p.inp)).add t) (headM p.inp).q := by rw [next_none h0A hrA, hAi, if_neg (by simp [hs]), hg, if_pos rfl, hhd]
        rw [e1, e2]
        refine ⟨ha.1.yes, ha.1.no, fun hs2 => ?_⟩
        have hw := ha.1.wait hs2
        rw [next_some (p := (tailI (headed p (headM p.inp)) (headM p.inp).q).p.add t) hw.2 (ha.2 hs2)]
        exact hw
    · have hA : headM (p.inp ++ t) = headM p.inp := by
        rcases head_app p.inp t with hx | hx
        · rw [hx] at hs; exact absurd rfl hs
        · exact hx
      have hAi : headM (p.add t).inp = headM p.inp := hA
      have e1 : nextI p = ⟨{ p with st := (headM p.inp).s }, req0, (headM p.inp).s⟩ := by rw [next_none h0 hr, if_pos hs]
      have e2 : nextI (p.add t) = ⟨{ p.add t with st := (headM p.inp).s }, req0, (headM p.inp).s⟩ := by rw [next_none h0A hrA, hAi, if_pos hs]
      rw [e1, e2]
      exact ⟨fun hh => absurd hh (head_ne200 _), fun _ _ => ⟨rfl, rfl, rfl⟩, fun hh => absurd hh hs⟩
/-- all requests that an inlet has, what is wrong then, what is left -/
inductive Alls : InS → List Req → Int → InS → Prop
  | stop {p : InS} : (nextI p).s ≠ 200 → Alls p [] (nextI p).s (nextI p).p
  | more {p p' : InS} {L : List Req} {n : Int} : (nextI p).s = 200 → Alls (nextI p).p L n p' → Alls p ((nextI p).q :: L) n p'
theorem alls_det {p p1 p2 : InS} {L1 L2 : List Req} {n1 n2 : Int} (h : Alls p L1 n1 p1) : Alls p L2 n2 p2 → L1 = L2 ∧ n1 = n2 ∧ p1 = p2 := by
  induction h generalizing L2 n2 p2 with
  | stop h => intro k; cases k with
    | stop _ => exact ⟨rfl, rfl, rfl⟩
    | more k _ => exact absurd k h
  | more h _ ih => intro k; cases k with
    | stop k => exact absurd h k
    | more _ k => obtain ⟨rfl, rfl, rfl⟩ := ih k; exact ⟨rfl, rfl, rfl⟩
theorem alls_of {p r p' : InS} {L : List Req} {n : Int} (he : nextI p = nextI r) (h : Alls r L n p') : Alls p L n p' := by
  cases h with
  | stop h => rw [← he] at h ⊢; exact .stop h
  | more h k => rw [← he] at h k ⊢; exact .more h k
theorem alls_app {p p1 : InS} {L1 : List Req} {n1 : Int} (h : Alls p L1 n1 p1) (t : List UInt8) : p.ok → p.st = 0 →
    (n1 = 0 → ∀ L2 n p', Alls (p1.add t) L2 n p' → Alls (p.add t) (L1 ++ L2) n p') ∧ (n1 ≠ 0 → ∃ p', Alls (p.add t) L1 n1 p') ∧ (n1 = 0 → p1.st = 0) ∧ p1.ok ∧ n1 ≠ 200 := by
  induction h with
  | @stop p h =>
    intro hok h0
    have ha := next_app hok h0 t
    refine ⟨fun hn L2 n p' k => ?_, fun hn => ?_, fun hn => (ha.wait hn).2, next_ok hok, h⟩
    · exact alls_of (ha.wait hn).1 k
    · obtain ⟨e1, _, _⟩ := ha.no h hn
      refine ⟨(nextI (p.add t)).p, ?_⟩
      rw [← e1]
      exact .stop (by rw [e1]; exact h)
  | @more p p' L n h k ih =>
    intro hok h0
    have ha := (next_app hok h0 t).yes h
    obtain ⟨i1, i2, i3, i4, i5⟩ := ih (next_ok hok) (next_st hok h0 h)
    refine ⟨fun hn L2 m r kk => ?_, fun hn => ?_, i3, i4, i5⟩
    · have := Alls.more (p := p.add t) (L := L ++ L2) (n := m) (p' := r) (by rw [ha]) (by rw [ha]; exact i1 hn L2 m r kk)
      rw [ha] at this
      exact this
    · obtain ⟨r, kk⟩ := i2 hn
      refine ⟨r, ?_⟩
      have := Alls.more (p := p.add t) (L := L) (n := n) (p' := r) (by rw [ha]) (by rw [ha]; exact kk)
      rw [ha] at this
      exact this
theorem in0_add (t : List UInt8) : (in0.add t) = { in0 with inp := t } := rfl
theorem alls_nil : Alls in0 [] 0 in0 := by
  have h : nextI in0 = ⟨in0, req0, 0⟩ := by kernel_rfl
  have := Alls.stop (p := in0) (by rw [h]; decide)
  rw [h] at this
  exact this
end Go.Proofs.YtpimfoohpfkciaaDoor

/- Layer 12: all the requests that an inlet has, gathered. No conditions but on lengths. -/
namespace Go.Proofs.YtpimfoohpfkciaaDoor
open Go.RowKit Go.Shelf

/-- 'out = append(out, x)' and 'out = append(out, more...)', out the call's own; whatever the call has done elsewhere -/
theorem wpList_append_any {P : Program} {ops : Array Oper} {rest : List Oper} {o : Oper} {a : Act} {w : World} {Q : Exit → Act → World → Prop} (hgd : o.guard = none) (s x : Operand) (t : TypeId)
    (ho : o.op = .call { callee := .builtin .append, args := #[s, x], argTypes := #[t, t] })
    {α : Type} {enc : α → List Value} {n base : Nat} {E : TypeId} {L : List α} {v : Value}
    (i : TypeInfo) (z : Value) (bytes : Nat) (ht : P.underlying t = some (.slice E)) (HI : Hid (P.info? E = some i ∧ i.zero = some z ∧ i.size = n ∧ i.bytes = bytes)) (hzs : z.cells.size = n) (hn0 : 0 < n)
    (hn : ∀ x, (enc x).length = n) (h1 : ∀ x, ∀ u ∈ enc x, u.oneCell' = true)
    (hb0 : base ≤ w.heap.size) (hs : a.eval s = v) (hown : Own enc n base E w v L) (M : List α) (ad : Addr) (c : Nat) (hx : a.eval x = .slice (some ad) M.length c)
    (hM : ∀ j u, (rows enc M)[j]? = some u → w.cell? (ad.add j) = some u)
    (h63 : L.length + M.length ≤ maxLen) (hbytes : (L.length + M.length) * bytes ≤ 140737488355328)
    (h : ∀ v' w', Own enc n base E w' v' (L ++ M) → w.grownBy w' v.ownBlock → (v' = .slice none 0 0 ↔ v = .slice none 0 0 ∧ M.length = 0) → (v'.ownBlock = v.ownBlock ∨ v'.ownBlock = some w.heap.size) → wpList P ops Q rest (a.put o.dst v') w') : wpList P ops Q (o :: rest) a w := by
  refine wpList_append_own_at _ hgd s x t ho base E i z n bytes ht HI.out.1 HI.out.2.1 HI.out.2.2.1 HI.out.2.2.2 hzs hn0 v L.length (rows enc L) hs hown ad M.length c (rows enc M) hx (by rw [rows_length hn, Nat.mul_comm]) hM (fun u hu => ?_) h63 hbytes hb0 ?_
  · unfold rows at hu
    obtain ⟨y, _, hy⟩ := List.mem_flatMap.1 hu
    exact h1 y u hy
  · intro v' w' hown' hg hnil hat
    refine h v' w' ?_ hg hnil hat
    unfold Own
    have : rows enc (L ++ M) = rows enc L ++ rows enc M := by simp [rows]
    rw [this, List.length_append]
    exact hown'
/-- a request as a row of cells -/
structure RqE where
  m : List UInt8
  t : List UInt8
  a : Option Addr
  l : Nat
  c : Nat
  cl : Bool
  deriving Inhabited
def RqE.v (x : RqE) : Value := .slice x.a x.l x.c
def RqE.cells (x : RqE) : List Value := reqC x.m x.t (.slice x.a x.l x.c) x.cl
theorem RqE.len (x : RqE) : x.cells.length = 4 := rfl
theorem RqE.one (x : RqE) : ∀ u ∈ x.cells, u.oneCell' = true := reqC_one _ _ _ rfl
theorem reqinfo : (Tryd.prog.info? 37).map (fun i => (i.zero, i.size, i.bytes)) = some (some (.agg reqZ.toArray), 4, 64) := by kernel_rfl
theorem reqinfo' : ∃ i0, Hid (Tryd.prog.info? 37 = some i0 ∧ i0.zero = some (.agg reqZ.toArray) ∧ i0.size = 4 ∧ i0.bytes = 64) := by
  obtain ⟨i0, hi, hz0, hz1, hz2⟩ := info_parts reqinfo
  exact ⟨i0, hi, hz0, hz1, hz2⟩
theorem wpList_buildReq {ops : Array Oper} {rest : List Oper} {o : Oper} {a : Act} {w : World} {Q : Exit → Act → World → Prop} (hg : o.guard = none) (t : TypeId) (x : Operand) (ho : o.op = .buildSlice t 1 #[(0, x)])
    {is : TypeInfo} (Hs : Hid (Tryd.prog.info? 37 = some is ∧ is.zero = some (.agg reqZ.toArray) ∧ is.size = 4 ∧ is.bytes = 64)) (hu : Tryd.prog.underlying t = some (.slice 37)) (j : RqE) (hx : a.eval x = .agg j.cells.toArray)
    (h : wpList Tryd.prog ops Q rest (a.put o.dst (.slice (some ⟨w.heap.size, 0, none⟩) 1 1)) (w.alloc (.cells j.cells.toArray 37))) : wpList Tryd.prog ops Q (o :: rest) a w := by
  refine wpList_buildSlice hg t 37 1 #[(0, x)] ho j.cells.toArray is _ hu Hs.out.1 Hs.out.2.1 (by rw [Hs.out.2.2.1]; omega) (by rw [Hs.out.2.2.1]; omega) ?_ h
  rw [Hs.out.2.2.1]
  have := Great.fill_whole (s := 4) (by omega) [.agg j.cells.toArray] ((Array.range (1 * 4)).map fun k => (Value.agg reqZ.toArray).cells[k % (Value.agg reqZ.toArray).cells.size]!) (by
    intro v hv
    simp at hv
    subst hv
    show j.cells.toArray.size = 4
    simp [RqE.len]) (by simp)
  simp only [List.zipIdx_cons, List.zipIdx_nil, List.map_cons, List.map_nil, List.flatMap_cons, List.flatMap_nil, List.append_nil] at this
  have e : (#[(0, x)].map fun (i, x) => (i, a.eval x)).toList = [((0 : Nat), Value.agg j.cells.toArray)] := by simp [hx]
  rw [e]
  exact this
/-- one row says one request -/
def El1 (B : Nat) (w : World) (x : RqE) (q : Req) : Prop := x.m = q.m ∧ x.t = q.t ∧ x.cl = q.cl ∧ Own Fld.cells 2 B 44 w x.v q.F
/-- a list of requests in memory: its own row, and what is only read (Z) -/
structure Rs (B : Nat) (w : World) (vo : Value) (Z : List Nat) (EL : List RqE) (L : List Req) : Prop where
  own : Own RqE.cells 4 B 37 w vo EL
  len : EL.length = L.length
  el : ∀ (i : Nat) x q, EL[i]? = some x → L[i]? = some q → El1 B w x q
  rd : ∀ x ∈ EL, ∀ g, x.v.ownBlock = some g → g ∈ Z
  sep : ∀ g, vo.ownBlock = some g → g ∉ Z
  lo : ∀ z ∈ Z, z < w.heap.size
  nn : vo ≠ .slice none 0 0
theorem Rs.keep {B : Nat} {w w' : World} {vo : Value} {Z S : List Nat} {EL : List RqE} {L : List Req} (h : Rs B w vo Z EL L) (k : Keep S w w') (hv : ∀ g, vo.ownBlock = some g → g ∉ S) (hZ : ∀ z ∈ Z, z ∉ S) : Rs B w' vo Z EL L :=
  ⟨h.own.keep k hv, h.len, fun i x q hx hq => let ⟨a, b, c, d⟩ := h.el i x q hx hq; ⟨a, b, c, d.keep k (fun g hg => hZ g (h.rd x (List.mem_of_getElem? hx) g hg))⟩, h.rd, h.sep, fun z hz => Nat.lt_of_lt_of_le (h.lo z hz) k.size, h.nn⟩
theorem Rs.keep0 {B : Nat} {w w' : World} {vo : Value} {Z : List Nat} {EL : List RqE} {L : List Req} (h : Rs B w vo Z EL L) (k : Keep [] w w') : Rs B w' vo Z EL L := h.keep k (by simp) (by simp)
theorem Keep.ofGrown {w w' : World} {row : Option Nat} (h : w.grownBy w' row) : Keep row.toList w w' := (Keep.refl _ w).grown h (fun k hk _ => by rw [hk]; simp)
/-- the path of whole requests so far -/
def Steps (I : InS) (L : List Req) (J : InS) : Prop := ∀ L2 n p', Alls J L2 n p' → Alls I (L ++ L2) n p'
theorem Steps.more {I J : InS} {L : List Req} (h : Steps I L J) (hs : (nextI J).s = 200) : Steps I (L ++ [(nextI J).q]) (nextI J).p := fun L2 n p' k => by
  have := h _ _ _ (Alls.more hs k)
  simpa using this
/-- where a gathering stands: V: the list's own row -/
structure AllS (B : Nat) (w : World) (p : Nat) (X R : List Nat) (I : InS) (wt : World) (vo : Value) (Z : List Nat) (EL : List RqE) (L : List Req) (J : InS) (X1 R1 : List Nat) : Prop where
  it : It B wt p X1 R1 J
  kp : Keep X w wt
  nx : ∀ x ∈ X1, x ∈ X ∨ w.heap.size ≤ x
  nr : ∀ x ∈ R1, x ∈ R ∨ w.heap.size ≤ x
  rs : Rs B wt vo Z EL L
  nz : ∀ z ∈ Z, z ∉ X1 ∧ (z ∈ R ∨ w.heap.size ≤ z)
  nv : ∀ g, vo.ownBlock = some g → w.heap.size ≤ g ∧ g < wt.heap.size ∧ g ∉ X1 ∧ g ∉ R1
  st : Steps I L J
  ok : J.ok
  s0 : J.st = 0
  lf : J.left + 2 * L.length ≤ I.left
/-- what 'all' comes to -/
def AllOut (B : Nat) (w : World) (p : Nat) (X R : List Nat) (I : InS) (e : Ending) (w' : World) : Prop :=
  ∃ vo Z EL L n J' X' R', e = .returned (.tuple #[vo, .int .i64 n]) ∧ Alls I L n J' ∧ It B w' p X' R' J' ∧ Keep X w w' ∧ (∀ x ∈ X', x ∈ X ∨ w.heap.size ≤ x) ∧ (∀ x ∈ R', x ∈ R ∨ w.heap.size ≤ x) ∧ Rs B w' vo Z EL L ∧ (∀ z ∈ Z, z ∉ X' ∧ (z ∈ R ∨ w.heap.size ≤ z)) ∧ (∀ g, vo.ownBlock = some g → w.heap.size ≤ g ∧ g ∉ X' ∧ g ∉ R') ∧ J'.left + 2 * L.length ≤ I.left ∧ J'.ok
theorem AllS.next {B p : Nat} {w wt w1 : World} {X R X1 R1 : List Nat} {I J : InS} {vo : Value} {Z : List Nat} {EL : List RqE} {L : List Req} (h : AllS B w p X R I wt vo Z EL L J X1 R1) {X2 R2 : List Nat} (k : Keep X1 wt w1) (hi : It B w1 p X2 R2 (nextI J).p)
    (n2 : ∀ x ∈ X2, x ∈ X1 ∨ wt.heap.size ≤ x) (r2 : ∀ x ∈ R2, x ∈ R1 ∨ wt.heap.size ≤ x) : It B w1 p X2 R2 (nextI J).p ∧ Keep X w w1 ∧ (∀ x ∈ X2, x ∈ X ∨ w.heap.size ≤ x) ∧ (∀ x ∈ R2, x ∈ R ∨ w.heap.size ≤ x) ∧ Rs B w1 vo Z EL L ∧ (∀ z ∈ Z, z ∉ X2 ∧ (z ∈ R ∨ w.heap.size ≤ z)) ∧ (∀ g, vo.ownBlock = some g → w.heap.size ≤ g ∧ g < w1.heap.size ∧ g ∉ X2 ∧ g ∉ R2) := by
  have hsz := h.kp.size
  have hk := k.size
  refine ⟨hi, h.kp.trans' k (fun x hx hlt => (h.nx x hx).elim id (fun hh => by omega)), fun x hx => ?_, fun x hx => ?_, h.rs.keep k (fun g hg => (h.nv g hg).2.2.1) (fun z hz => (h.nz z hz).1), fun z hz => ⟨fun hh => ?_, (h.nz z hz).2⟩, fun g hg => ⟨(h.nv g hg).1, by have := (h.nv g hg).2.1; omega, fun hh => ?_, fun hh => ?_⟩⟩
  · rcases n2 x hx with h1 | h1
    · exact h.nx x h1
    · exact .inr (by omega)
  · rcases r2 x hx with h1 | h1
    · exact h.nr x h1
    · exact .inr (by omega)
  · rcases n2 z hh with h1 | h1
    · exact (h.nz z hz).1 h1
    · have := h.rs.lo z hz; omega
  · rcases n2 g hh with h1 | h1
    · exact (h.nv g hg).2.2.1 h1
    · have := (h.nv g hg).2.1; omega
  · rcases r2 g hh with h1 | h1
    · exact (h.nv g hg).2.2.2 h1
    · have := (h.nv g hg).2.1; omega
theorem AllS.stop {B p : Nat} {w wt w1 : World} {X R X1 R1 : List Nat} {I J : InS} {vo : Value} {Z : List Nat} {EL : List RqE} {L : List Req} (h : AllS B w p X R I wt vo Z EL L J X1 R1) {X2 R2 : List Nat} (k : Keep X1 wt w1) (hi : It B w1 p X2 R2 (nextI J).p)
    (n2 : ∀ x ∈ X2, x ∈ X1 ∨ wt.heap.size ≤ x) (r2 : ∀ x ∈ R2, x ∈ R1 ∨ wt.heap.size ≤ x) (hs : (nextI J).s ≠ 200) {w2 : World} (k2 : Keep [] w1 w2) : AllOut B w p X R I (.returned (.tuple #[vo, .int .i64 (nextI J).s])) w2 := by
  obtain ⟨h1, h2, h3, h4, h5, h6, h7⟩ := h.next k hi n2 r2
  have ha := h.st _ _ _ (Alls.stop hs)
  rw [List.append_nil] at ha
  exact ⟨vo, Z, EL, L, _, _, X2, R2, rfl, ha, h1.keep0 k2, h2.trans (k2.mono (by simp)), h3, h4, h5.keep0 k2, h6, fun g hg => ⟨(h7 g hg).1, (h7 g hg).2.2⟩, by have := h.lf; have := next_le h.ok; omega, next_ok h.ok⟩
/-- one request more -/
theorem AllS.more {B p : Nat} {w wt w1 w2 w3 : World} {X R X1 R1 : List Nat} {I J : InS} {vo vo' : Value} {Z : List Nat} {EL : List RqE} {L : List Req} (h : AllS B w p X R I wt vo Z EL L J X1 R1) {X2 R2 : List Nat} (k : Keep X1 wt w1) (hi : It B w1 p X2 R2 (nextI J).p)
    (n2 : ∀ x ∈ X2, x ∈ X1 ∨ wt.heap.size ≤ x) (r2 : ∀ x ∈ R2, x ∈ R1 ∨ wt.heap.size ≤ x) (hs : (nextI J).s = 200) (x : RqE) (hx : El1 B w1 x (nextI J).q) (hg : ∀ g, x.v.ownBlock = some g → (g ∈ R1 ∨ wt.heap.size ≤ g) ∧ g ∉ X2)
    (k2 : Keep [] w1 w2) (ho : Own RqE.cells 4 B 37 w3 vo' (EL ++ [x])) (hgr : w2.grownBy w3 vo.ownBlock) (hnn : vo' ≠ .slice none 0 0) (hat : vo'.ownBlock = vo.ownBlock ∨ vo'.ownBlock = some w2.heap.size) :
    AllS B w p X R I w3 vo' (x.v.ownBlock.toList ++ Z) (EL ++ [x]) (L ++ [(nextI J).q]) (nextI J).p X2 R2 := by
  obtain ⟨h1, h2, h3, h4, h5, h6, h7⟩ := h.next k hi n2 r2
  have k3 := Keep.ofGrown hgr
  have hz2 := k2.size
  have hz3 := k3.size
  have hzt := k.size
  have hzw := h.kp.size
  have hVX : ∀ y ∈ X2, y ∉ vo.ownBlock.toList := fun y hy hh => by
    have hv : vo.ownBlock = some y := by simpa using hh
    exact (h7 y hv).2.2.1 hy
  have hVR : ∀ y ∈ R2, y ∉ vo.ownBlock.toList := fun y hy hh => by
    have hv : vo.ownBlock = some y := by simpa using hh
    exact (h7 y hv).2.2.2 hy
  have hxv : ∀ g, x.v.ownBlock = some g → g ∉ vo.ownBlock.toList := fun g hg' hh => by
    have hv : vo.ownBlock = some g := by simpa using hh
    rcases (hg g hg').1 with h8 | h8
    · exact (h.nv g hv).2.2.2 h8
    · have := (h.nv g hv).2.1; omega
  have hxlt : ∀ g, x.v.ownBlock = some g → g < w1.heap.size := fun g hg' => (hx.2.2.2.lt g hg').2
  have h200 := next_200 h.ok h.s0 hs
  have hv' : ∀ g, vo'.ownBlock = some g → (vo.ownBlock = some g ∨ g = w2.heap.size) ∧ g < w3.heap.size := fun g hg' => by
    refine ⟨?_, (ho.lt g hg').2⟩
    rcases hat with e | e
    · exact .inl (e ▸ hg')
    · rw [e] at hg'; exact .inr (by simpa using hg'.symm)
  refine ⟨(h1.keep0 k2).keep k3 hVX hVR, (h2.trans (k2.mono (by simp))).trans' k3 (fun y hy hlt => ?_), h3, h4, ⟨ho, by simp [h5.len], ?_, ?_, ?_, ?_, hnn⟩, ?_, ?_, h.st.more hs, next_ok h.ok, h200.1, ?_⟩
  · have hv : vo.ownBlock = some y := by simpa using hy
    have := (h7 y hv).1; omega
  · intro i y q hy hq
    rcases Nat.lt_trichotomy i EL.length with hi' | hi' | hi'
    · rw [List.getElem?_append_left hi'] at hy
      rw [List.getElem?_append_left (by rw [← h5.len]; exact hi')] at hq
      have he := h5.el i y q hy hq
      refine ⟨he.1, he.2.1, he.2.2.1, (he.2.2.2.keep0 k2).keep k3 (fun g hg' hh => ?_)⟩
      have hv : vo.ownBlock = some g := by simpa using hh
      exact h5.sep g hv (h5.rd y (List.mem_of_getElem? hy) g hg')
    · rw [List.getElem?_append_right (by omega), hi', Nat.sub_self] at hy
      rw [List.getElem?_append_right (by rw [← h5.len]; omega), hi', h5.len, Nat.sub_self] at hq
      obtain rfl : x = y := by simpa using hy
      obtain rfl : (nextI J).q = q := by simpa using hq
      exact ⟨hx.1, hx.2.1, hx.2.2.1, (hx.2.2.2.keep0 k2).keep k3 hxv⟩
    · rw [List.getElem?_append_right (by omega), List.getElem?_eq_none (by simp; omega)] at hy
      cases hy
  · intro y hy g hg'
    rcases List.mem_append.1 hy with hy | hy
    · exact List.mem_append_right _ (h5.rd y hy g hg')
    · have : y = x := by simpa using hy
      subst this
      exact List.mem_append_left _ (by rw [hg']; simp)
  · intro g hg' hh
    rcases List.mem_append.1 hh with hh | hh
    · have hxg : x.v.ownBlock = some g := by simpa using hh
      rcases (hv' g hg').1 with h8 | h8
      · exact hxv g hxg (by rw [h8]; simp)
      · have := hxlt g hxg; omega
    · rcases (hv' g hg').1 with h8 | h8
      · exact h5.sep g h8 hh
      · have := h5.lo g hh; omega
  · intro z hz
    rcases List.mem_append.1 hz with hz | hz
    · have := hxlt z (by simpa using hz); omega
    · have := h5.lo z hz; omega
  · intro z hz
    rcases List.mem_append.1 hz with hz | hz
    · have hxg : x.v.ownBlock = some z := by simpa using hz
      refine ⟨(hg z hxg).2, ?_⟩
      rcases (hg z hxg).1 with h8 | h8
      · exact h.nr z h8
      · exact .inr (by omega)
    · exact h6 z hz
  · intro g hg'
    obtain ⟨h8, h9⟩ := hv' g hg'
    rcases h8 with h8 | h8
    · exact ⟨(h7 g h8).1, h9, (h7 g h8).2.2⟩
    · refine ⟨by omega, h9, fun hh => ?_, fun hh => ?_⟩
      · have := (h1.lo g hh).2; omega
      · have := (h1.ro g hh).2.1; omega
  · rw [List.length_append, List.length_singleton]
    have := h.lf
    omega
set_option maxRecDepth 100000 in
set_option maxHeartbeats 4000000 in
theorem inlet_all {B p : Nat} {X R : List Nat} {I : InS} {w : World} (h : It B w p X R I) (hm : ML w) (hB : B ≤ w.heap.size) (hbig : 0 < B) (hok : I.ok) (h0 : I.st = 0) (hlf : I.left ≤ 16000) :
    Calls Tryd.prog 10 #[.pointer (some ⟨p, 0, none⟩)] w (AllOut B w p X R I) := by
  obtain ⟨is, Hs⟩ := reqinfo'
  have kA := (Keep.refl [] w).alloc (.cells #[] 37)
  have oA := Own.none RqE.cells 4 37 (base := B) (w := w) hB
  have SA : AllS B w p X R I (w.alloc (.cells #[] 37)) (.slice (some ⟨w.heap.size, 0, none⟩) 0 0) [] [] [] I X R :=
    ⟨h.keep0 kA, kA.mono (by simp), fun x hx => .inl hx, fun x hx => .inl hx, ⟨oA, rfl, by simp, by simp, by simp, by simp, by simp⟩, by simp, fun g hg => by
      have hgg : w.heap.size = g := by simpa [Value.ownBlock] using hg
      subst hgg
      exact ⟨Nat.le_refl _, by simp, fun hh => by have := (h.lo _ hh).2; omega, fun hh => by have := (h.ro _ hh).2.1; omega⟩, fun L2 n p' k => k, hok, h0, by simp⟩
  have HS := Lib.hid SA
  have HM := Lib.hid hm
  have HB := Lib.hid hB
  have HLO := Lib.hid h.lo
  clear kA oA SA h hm hok h0
  generalize hwA : w.alloc (.cells #[] 37) = wA at *
  go_enter Tryd.func10, Tryd.ntmps10
  go_wp2_with fail
  go_loopg [4, 5] 8192 (fun g ov iv wr => ∃ (vo : Value) (Z : List Nat) (EL : List RqE) (L : List Req) (J : InS) (X1 R1 : List Nat), ov = vo ∧ iv = .int .i64 (L.length : Nat) ∧ L.length ≤ 8192 ∧ g = 8192 - L.length ∧ Hid (AllS B w p X R I wr vo Z EL L J X1 R1))
  case atStart => exact ⟨_, _, _, _, _, _, _, rfl, rfl, by simp, rfl, HS⟩
  case round =>
    obtain ⟨vo, Z, EL, L, J, X1, R1, hvo, rfl, hk, hg, HA⟩ := hrel
    have hvo2 := hvo.symm
    clear hvo
    subst hvo2
    have hlt : L.length < 8000 + 1 := by have := HA.out.lf; omega
    have q1 : decide ((L.length : Int) < 8192) = true := by simp; omega
    have hBr : B ≤ wr.heap.size := Nat.le_trans HB.out HA.out.kp.size
    have HN := Lib.hid (inlet_Next HA.out.it (HM.out.keepB hbig HA.out.kp (fun x hx => (HLO.out x hx).1)) hBr hbig HA.out.ok)
    have HE := Lib.hid HA.out.rs.own
    have HRL := Lib.hid HA.out.rs.len
    have HNN := Lib.hid HA.out.rs.nn
    have wk := IntWalk.i64_in ((L.length : Int) + 1) (by omega)
    unfold NextOut at HN
    obtain ⟨r, hr⟩ : ∃ r, r = nextI J := ⟨_, rfl⟩
    rw [← hr] at HN
    have HR := Lib.hid hr
    have hl2 : EL.length = L.length := HRL.out
    clear hr
    by_cases hs : r.s = 200
    case neg =>
      have q2 := (int_ne hs).2
      have HSn := Lib.hid hs
      clear hs hl2 hlf hk
      go_wp2_with fail
      refine HN.out.mono ?_
      rintro e w1 ⟨v, X2, R2, rfl, hi, k1, n2, r2, ho, hgv⟩
      obtain ⟨sa, sc, rfl, _⟩ := ho.shape
      have kB := (Keep.refl [] w1).alloc (.cells (reqC r.q.m r.q.t (.slice sa r.q.F.length sc) r.q.cl).toArray 37)
      have HO1 := Lib.hid (reqC_one r.q.m r.q.t (v := .slice sa r.q.F.length sc) r.q.cl rfl)
      generalize hwB : w1.alloc (.cells (reqC r.q.m r.q.t (.slice sa r.q.F.length sc) r.q.cl).toArray 37) = wB at kB
      have hx0 := HA.out.stop k1 (by rw [← HR.out]; exact hi) n2 r2 (by rw [← HR.out]; exact HSn.out) kB
      rw [← HR.out] at hx0
      have HX := Lib.hid hx0
      clear ho hgv k1 hi n2 r2 kB hx0
      go_wp2_with (first
        | (with_reducible (show wpList _ _ _ ((⟨none, .store _ (.tmp 6) (.tmp 16), _, _, _, none⟩ : Oper) :: _) _ _)
           refine wpList_store_fresh rfl 37 (.tmp 6) (.tmp 16) rfl _ (reqC r.q.m r.q.t (.slice sa r.q.F.length sc) r.q.cl) (by rfl) (by rfl) req_size (by rfl) HO1.out ?_
           rw [hwB]
           try simp only [Act.put, List.setIfInBounds_toArray, List.set_cons_succ, List.set_cons_zero])
        | fail)
      go_ret2
      exact HX.out
    case pos =>
      have q2 := (int_eq hs).2
      have HSn := Lib.hid hs
      rw [hs] at HN
      have hbytes : (EL.length + 1) * 64 ≤ 140737488355328 := by omega
      have h63 : EL.length + 1 ≤ maxLen := by unfold maxLen; omega
      clear hs hlf
      go_wp2_with fail
      refine HN.out.mono ?_
      rintro e w1 ⟨v, X2, R2, rfl, hi, k1, n2, r2, ho, hgv⟩
      obtain ⟨sa, sc, rfl, _⟩ := ho.shape
      have HO1 := Lib.hid (reqC_one r.q.m r.q.t (v := .slice sa r.q.F.length sc) r.q.cl rfl)
      obtain ⟨x, hx⟩ : ∃ x : RqE, x = ⟨r.q.m, r.q.t, sa, r.q.F.length, sc, r.q.cl⟩ := ⟨_, rfl⟩
      have hxc : reqC r.q.m r.q.t (.slice sa r.q.F.length sc) r.q.cl = x.cells := by rw [hx]; rfl
      have hxe : El1 B w1 x r.q := by rw [hx]; exact ⟨rfl, rfl, rfl, ho⟩
      have hxv : x.v = .slice sa r.q.F.length sc := by rw [hx]; rfl
      rw [hxc] at HO1
      have rng0 := (Blk.newA w1 x.cells.toArray 37)
      have kB := (Keep.refl [] w1).alloc (.cells x.cells.toArray 37)
      have hnx := HA.out.next k1 (by rw [← HR.out]; exact hi) n2 r2
      have oB := hnx.2.2.2.2.1.own.keep0 kB
      have hszB : w1.heap.size ≤ (w1.alloc (.cells x.cells.toArray 37)).heap.size := kB.size
      have hB1 : B ≤ w1.heap.size := Nat.le_trans hBr k1.size
      generalize hwB : w1.alloc (.cells x.cells.toArray 37) = wB at kB rng0 oB hszB
      have RNG := Lib.hid (show Blk wB w1.heap.size 37 x.cells from rng0).range'
      have kC := kB.alloc (.cells x.cells.toArray 37)
      have bC := Blk.newA wB x.cells.toArray 37
      have oC := oB.alloc (.cells x.cells.toArray 37)
      have hBC : B ≤ (wB.alloc (.cells x.cells.toArray 37)).heap.size := by have := kC.size; omega
      generalize hwC : wB.alloc (.cells x.cells.toArray 37) = wC at kC bC oC hBC
      have BC := Lib.hid (show Blk wC wB.heap.size 37 x.cells from bC)
      have hM : ∀ j u, (rows RqE.cells [x])[j]? = some u → wC.cell? ((⟨wB.heap.size, 0, none⟩ : Addr).add j) = some u := by
        intro j u hj
        have e1 : rows RqE.cells [x] = x.cells := by simp [rows]
        rw [e1] at hj
        have : (⟨wB.heap.size, 0, none⟩ : Addr).add j = ⟨wB.heap.size, j, none⟩ := by unfold Addr.add; split <;> simp_all
        rw [this, BC.out.cell j]
        exact hj
      have HMm := Lib.hid hM
      have OC := Lib.hid oC
      have HF2 := Lib.hid (fun (vo' : Value) (w3 : World) (g1 : Own RqE.cells 4 B 37 w3 vo' (EL ++ [x])) (g2 : wC.grownBy w3 vo.ownBlock) (g3 : vo' ≠ .slice none 0 0) (g4 : vo'.ownBlock = vo.ownBlock ∨ vo'.ownBlock = some wC.heap.size) =>
        show AllS B w p X R I w3 vo' (x.v.ownBlock.toList ++ Z) (EL ++ [x]) (L ++ [r.q]) r.p X2 R2 by
          have := HA.out.more k1 (by rw [← HR.out]; exact hi) n2 r2 (by rw [← HR.out]; exact HSn.out) x (by rw [← HR.out]; exact hxe) (by rw [hxv]; exact hgv) kC g1 g2 g3 g4
          rw [← HR.out] at this
          exact this)
      clear ho hgv k1 hi n2 r2 kB kC bC oC oB hM rng0 hnx hxe HN hszB hB1 hl2
      go_wp2_with (first
        | (with_reducible (show wpList _ _ _ ((⟨none, .store _ (.tmp 6) (.tmp 16), _, _, _, none⟩ : Oper) :: _) _ _)
           refine wpList_store_fresh rfl 37 (.tmp 6) (.tmp 16) rfl _ x.cells (by rfl) (by rw [← hxc]; rfl) req_size (by rfl) HO1.out ?_
           rw [hwB]
           try simp only [Act.put, List.setIfInBounds_toArray, List.set_cons_succ, List.set_cons_zero])
        | (with_reducible (show wpList _ _ _ ((⟨_, .load _ (.tmp 6), _, _, _, none⟩ : Oper) :: _) _ _)
           refine wpList_load_mid rfl 37 (.tmp 6) rfl w1.heap.size 0 (by rfl) x.cells _ RNG.out Tryd.underlying37 rfl req_size ?_
           try simp only [Act.put, List.setIfInBounds_toArray, List.set_cons_succ, List.set_cons_zero])
        | (with_reducible (show wpList _ _ _ ((⟨_, .buildSlice _ _ _, _, _, _, none⟩ : Oper) :: _) _ _)
           refine wpList_buildReq rfl 31 (.tmp 23) rfl Hs Tryd.underlying31 x (by rfl) ?_
           rw [hwC]
           try simp only [Act.put, List.setIfInBounds_toArray, List.set_cons_succ, List.set_cons_zero])
        | (at_builtin; go_must (refine wpList_append_any rfl _ _ 31 rfl is _ 64 Tryd.underlying31 Hs (by rfl) (by decide) RqE.len RqE.one hBC (by rfl) OC.out [x] ⟨wB.heap.size, 0, none⟩ _ (by rfl) HMm.out h63 hbytes ?_); intro v' w4 hown' hgr' hnil' hat'; have HX := Lib.hid (HF2.out _ _ hown' hgr' (fun hh => HNN.out (hnil'.1 hh).1) hat'); clear hown' hgr' hnil' hat')
        | fail)
      go_roundg (8192 - (L ++ [r.q]).length)
      case measure => rw [List.length_append, List.length_singleton]; omega
      case rel => exact ⟨_, _, _, L ++ [r.q], r.p, X2, R2, rfl, by rw [List.length_append, List.length_singleton]; go_num, by rw [List.length_append, List.length_singleton]; omega, rfl, HX⟩
end Go.Proofs.YtpimfoohpfkciaaDoor

/- Layer 13: laid: a head that is written. No conditions but on lengths. -/
namespace Go.Proofs.YtpimfoohpfkciaaDoor
open Go.RowKit Go.Shelf

def fin (l : List UInt8) (e : Int) : Value := .tuple #[.string (S l), .int .i64 e]
theorem laid_many {st : List UInt8} {L : List Fld} (h : 32 < L.length) : laidE st L = 1 ∧ laidS st L = [] := by
  have h0 : laidOk L = false := by unfold laidOk; simp; omega
  have h1 : laidE st L = 1 := by unfold laidE; rw [h0]; rfl
  exact ⟨h1, by unfold laidS; rw [h1]; rfl⟩
theorem laid_bad {st : List UInt8} {L : List Fld} {x : Fld} (hx : x ∈ L) (hg : goodF x = false) : laidE st L = 1 ∧ laidS st L = [] := by
  have h0 : laidOk L = false := by
    unfold laidOk
    rw [show L.all goodF = false from by rw [List.all_eq_false]; exact ⟨x, hx, by simp [hg]⟩, Bool.and_false]
  have h1 : laidE st L = 1 := by unfold laidE; rw [h0]; rfl
  exact ⟨h1, by unfold laidS; rw [h1]; rfl⟩
theorem laid_good {st : List UInt8} {L : List Fld} (h : L.length ≤ 32) (hg : L.all goodF = true) : laidE st L = (if (headT st L).length ≤ 4096 then 0 else 4) ∧ laidS st L = (if (headT st L).length ≤ 4096 then headT st L else []) := by
  have h0 : laidOk L = true := by unfold laidOk; rw [hg]; simp [h]
  have h1 : laidE st L = (if (headT st L).length ≤ 4096 then 0 else 4) := by unfold laidE; rw [h0]; rfl
  refine ⟨h1, ?_⟩
  unfold laidS
  rw [h1]
  by_cases h2 : (headT st L).length ≤ 4096
  · rw [if_pos h2, if_pos h2, if_pos rfl]
  · rw [if_neg h2, if_neg h2, if_neg (by decide)]
theorem body_take {L : List Fld} {k : Nat} {x : Fld} (h : L[k]? = some x) : bodyT (L.take (k + 1)) = bodyT (L.take k) ++ (printF x ++ [13, 10]) := by
  have e : L.take (k + 1) = L.take k ++ [x] := by rw [List.take_add_one, h]; rfl
  rw [e]
  simp [bodyT]

end Go.Proofs.YtpimfoohpfkciaaDoor

/- Layer 13: Answer, Ask: the program's; the document's laid, Answer. No conditions but on lengths and the library's table. -/
namespace Go.Proofs.YtpimfoohpfkciaaDoor
open Go.RowKit Go.Shelf

theorem Sl.keep0 {α : Type} {enc : α → List Value} {n : Nat} {w w' : World} {v : Value} {L : List α} (h : Sl enc n w v L) (hn : ∀ x, (enc x).length = n) (h0 : 0 < n) (k : Keep [] w w') : Sl enc n w' v L := h.keep hn h0 h k (by simp) (Nat.le_refl _)
/-- 'HTTP/1.1 ' -/
def protSp : List UInt8 := [72, 84, 84, 80, 47, 49, 46, 49, 32]
theorem ans_no {s : Int} {L : List Fld} (h : statOk s = false) : ansE s L = 1 ∧ ansS s L = [] := by unfold ansE ansS; rw [h]; exact ⟨rfl, rfl⟩
theorem ans_yes {s : Int} {L : List Fld} (h : statOk s = true) : ansE s L = laidE (stOf s) L ∧ ansS s L = laidS (stOf s) L := by unfold ansE ansS; rw [h]; exact ⟨rfl, rfl⟩
theorem fin_ext {l : List UInt8} {e : Int} {x y : Value} (h1 : x = .string (S l)) (h2 : y = .int .i64 e) : Ending.returned (.tuple #[x, y]) = Ending.returned (fin l e) := by subst h1 h2; rfl

theorem ask_no {m t : List UInt8} {L : List Fld} (h : askOk m t = false) : askE m t L = 1 ∧ askS m t L = [] := by unfold askE askS; rw [h]; exact ⟨rfl, rfl⟩
theorem ask_yes {m t : List UInt8} {L : List Fld} (h : askOk m t = true) : askE m t L = laidE (askT m t) L ∧ askS m t L = laidS (askT m t) L := by unfold askE askS; rw [h]; exact ⟨rfl, rfl⟩

end Go.Proofs.YtpimfoohpfkciaaDoor

/- Layer 13: the document's laid, Answer. No conditions but on lengths. -/
namespace Go.Proofs.YtpimfoohpfkciaaDoor
open Go.RowKit Go.Shelf

end Go.Proofs.YtpimfoohpfkciaaDoor

/- Layer 12, the document's Line; layer 13, the document's Answer, Ask. No conditions but on lengths. -/
namespace Go.Proofs.YtpimfoohpfkciaaDoor
open Go.RowKit Go.Shelf

theorem cut_at {l : List UInt8} {c : UInt8} {k : Nat} (h : Lib.indexByte l c = (k : Nat)) : Lib.cut l [c] = (l.take k, l.drop (k + 1), true) := by
  unfold Lib.cut
  rw [Lib.index_one, h, if_pos (by omega)]
  simp
theorem cut_none {l : List UInt8} {c : UInt8} (h : Lib.indexByte l c = -1) : (Lib.cut l [c]).2.2 = false := by
  unfold Lib.cut
  rw [Lib.index_one, h, if_neg (by decide)]
def lnBad : Ln := ⟨[], [], 0, 400⟩
theorem ln_k {l : List UInt8} (h : Lib.indexByte l 32 = -1) : lnM l = lnBad := ln_no (by rw [cut_none h]; rfl)
theorem ln_tok {l : List UInt8} {k : Nat} (h : Lib.indexByte l 32 = (k : Nat)) (ht : isTok (l.take k) = false) : lnM l = lnBad := ln_no (by rw [cut_at h]; simp [ht])
theorem ln_n {l : List UInt8} {k : Nat} (h : Lib.indexByte l 32 = (k : Nat)) (hn : Lib.indexByte (l.drop (k + 1)) 32 = -1) : lnM l = lnBad := ln_no (by rw [cut_at h]; simp [cut_none hn])
theorem ln_tgt {l : List UInt8} {k n : Nat} (h : Lib.indexByte l 32 = (k : Nat)) (hn : Lib.indexByte (l.drop (k + 1)) 32 = (n : Nat)) (ht : isTgt ((l.drop (k + 1)).take n) = false) : lnM l = lnBad := ln_no (by rw [cut_at h]; simp only; rw [cut_at hn]; simp [ht])
theorem ln_min {l : List UInt8} {k n : Nat} (h : Lib.indexByte l 32 = (k : Nat)) (hn : Lib.indexByte (l.drop (k + 1)) 32 = (n : Nat)) (hm : minS ((l.drop (k + 1)).drop (n + 1)) = 400) : lnM l = lnBad := by
  by_cases hb : (isTok (l.take k) && isTgt ((l.drop (k + 1)).take n)) = true
  · rw [ln_yes (by rw [cut_at h]; simp only; rw [cut_at hn]; simpa using hb)]
    rw [cut_at h]
    simp only
    rw [cut_at hn]
    simp only [hm]
    rfl
  · exact ln_no (by rw [cut_at h]; simp only; rw [cut_at hn]; simpa using hb)
theorem ln_all {l : List UInt8} {k n : Nat} (h : Lib.indexByte l 32 = (k : Nat)) (hn : Lib.indexByte (l.drop (k + 1)) 32 = (n : Nat)) (ht : isTok (l.take k) = true) (hg : isTgt ((l.drop (k + 1)).take n) = true) :
    lnM l = if minS ((l.drop (k + 1)).drop (n + 1)) = 200 then ⟨l.take k, (l.drop (k + 1)).take n, minV ((l.drop (k + 1)).drop (n + 1)), 200⟩ else ⟨[], [], 0, minS ((l.drop (k + 1)).drop (n + 1))⟩ := by
  rw [ln_yes (by rw [cut_at h]; simp only; rw [cut_at hn]; simp [ht, hg])]
  rw [cut_at h]
  simp only
  rw [cut_at hn]
theorem min_http {l : List UInt8} (h : l.take 5 ≠ httpB) : minS l = 400 := (ver_no (.inl (by rw [take5_prefix]; simp [h]))).1
theorem min_len {l : List UInt8} (h : l.length ≠ 8) : minS l = 400 := (ver_no (.inr h)).1

end Go.Proofs.YtpimfoohpfkciaaDoor

/- Layer 13: the document's Ask; what the statements are awake to. No conditions but on lengths and the library's table. -/
namespace Go.Proofs.YtpimfoohpfkciaaDoor
open Go.RowKit Go.Shelf

/-- ' HTTP/1.1' -/
def spProt : List UInt8 := [32, 72, 84, 84, 80, 47, 49, 46, 49]
theorem itoa_200 : Lib.itoa 200 = [50, 48, 48] := by
  rw [show (200 : Int) = ((200 : Nat) : Int) from rfl, Lib.itoa_nonneg, dec_big (by omega), show 200 / 10 = 20 from rfl, dec_big (by omega), show 20 / 10 = 2 from rfl, dec_small (by omega)]
  rfl
def fAb : Fld := ⟨[65], [98]⟩
theorem awake13_plain : ansS 200 [fAb] = [72, 84, 84, 80, 47, 49, 46, 49, 32, 50, 48, 48, 32, 79, 75, 13, 10, 65, 58, 32, 98, 13, 10, 13, 10] ∧ ansE 200 [fAb] = 0 ∧
    askS [71, 69, 84] [47, 118, 50, 47] [] = [71, 69, 84, 32, 47, 118, 50, 47, 32, 72, 84, 84, 80, 47, 49, 46, 49, 13, 10, 13, 10] ∧ askE [71, 69, 84] [47, 118, 50, 47] [] = 0 ∧ askE [71, 69, 84] [47, 97, 32, 98] [] = 1 := by
  have h1 : stOf 200 = [72, 84, 84, 80, 47, 49, 46, 49, 32, 50, 48, 48, 32, 79, 75] := by unfold stOf; rw [itoa_200]; rfl
  have h2 : ansE 200 [fAb] = laidE (stOf 200) [fAb] ∧ ansS 200 [fAb] = laidS (stOf 200) [fAb] := ans_yes (by decide)
  rw [h1] at h2
  refine ⟨h2.2.trans ?_, h2.1.trans ?_, ?_, ?_, ?_⟩ <;> decide +kernel

end Go.Proofs.YtpimfoohpfkciaaDoor

/- Layer 10: the first look that the statements take: it answers true. No conditions. -/
namespace Go.Proofs.YtpimfoohpfkciaaDoor
open Go.RowKit Go.Shelf

theorem aw_p1 : parseV [72, 111, 115, 116, 58, 32, 97, 32, 98, 32] = ⟨[72, 111, 115, 116], [97, 32, 98]⟩ := by decide +kernel
theorem aw_e1 : parseE [72, 111, 115, 116, 58, 32, 97, 32, 98, 32] = 0 := by decide +kernel
theorem aw_p2 : parseV [72, 111, 115, 116, 32, 58, 32, 97] = ⟨[], []⟩ := by decide +kernel
theorem aw_e2 : parseE [72, 111, 115, 116, 32, 58, 32, 97] = 3 := by decide +kernel
theorem aw_els : elsM [⟨[88], [97, 44, 32, 34, 98, 44, 99, 34, 32, 44, 44, 100]⟩] [120] = [[97], [34, 98, 44, 99, 34], [100]] := by decide +kernel
theorem aw_s1 : splitM [71, 69, 84, 32, 47, 32, 72, 84, 84, 80, 47, 49, 46, 49, 13, 10, 65, 58, 32, 49, 13, 10, 13, 10, 114, 101, 115, 116] = ⟨[71, 69, 84, 32, 47, 32, 72, 84, 84, 80, 47, 49, 46, 49], [⟨[65], [49]⟩], 24, 0⟩ := by kernel_rfl
theorem aw_s2 : splitM [71, 69, 84, 32, 47, 13, 10, 65, 58, 32, 49, 13, 10, 13] = ⟨[], [], 0, 17⟩ := by kernel_rfl

/-- a slice over a block that is known -/
theorem Blk.sl {α : Type} {enc : α → List Value} {n : Nat} (hn : ∀ x, (enc x).length = n) {w : World} {b : Nat} {T : TypeId} {L : List α} (h : Blk w b T (rows enc L)) {l cap : Nat} (hl : l = L.length) (hc : l ≤ cap) (hm : cap ≤ maxLen) : Sl enc n w (.slice (some ⟨b, 0, none⟩) l cap) L := by
  subst hl
  exact .inr ⟨b, 0, cap, rfl, hc, hm, fun i x hx k hk => by rw [Nat.zero_add, h.cell, rows_get' hn L i k x hx hk]⟩
theorem parse_is {l n v : List UInt8} {k : Int} {w w1 : World} (hm : ML w) (hk : Keep [] w w1) (hl : l.length < 4294967281) (hv : parseV l = ⟨n, v⟩) (he : parseE l = k) :
    Calls Tryd.prog 76 #[.string (S l)] w1 fun e w' => e = .returned (.tuple #[.agg #[.string (S n), .string (S v)], .int .i64 k]) ∧ Keep [] w1 w' := by
  have h := field_Parse l w1 (hm.keep hk (by simp)) hl
  rw [hv, he] at h
  exact h
theorem split_is {l : List UInt8} {r : Rd} {w w1 : World} (hm : ML w) (hk : Keep [] w w1) (hl : l.length ≤ 1048576) (hv : splitM l = r) :
    Calls Tryd.prog 31 #[.string (S l)] w1 (SplitOut w1 r) := by
  have h := field_Split l w1 (hm.keep hk (by simp)) hl
  rw [hv] at h
  exact h

end Go.Proofs.YtpimfoohpfkciaaDoor

/- How fields that come in are read; the worlds that meet the rows' conditions. No conditions. -/
namespace Go.Proofs.YtpimfoohpfkciaaDoor
open Go.RowKit Go.ChangeShapes Go.WideShapes

theorem fld_cells : Tryd.prog.cellsOf 44 = 2 := by kernel_rfl
theorem str_cells : Tryd.prog.cellsOf 9 = 1 := by kernel_rfl
def Fld.good (f : Fld) : Prop := f.name.length ≤ maxLen ∧ f.value.length ≤ maxLen
theorem read_fld {H : Type} {enc : TypeId × Value → H} {w : World} {base : Nat} {spare : Nat → Bool} {held : Bool} (m : Nat) (cs : List Value) (x : DataW H × List MemPlace)
    (h : DataW.trod enc Tryd.prog w base spare held m 44 cs = some x) : ∃ a : Fld, cs = a.cells ∧ a.good := by
  obtain ⟨hl, n, hf⟩ := trod_fields Tryd.underlying44 h
  rw [fld_cells] at hl
  obtain ⟨y0, h0⟩ := hf 0 _ rfl
  obtain ⟨y1, h1⟩ := hf 1 _ rfl
  obtain ⟨v0, c0, w0⟩ := field_string Tryd.underlying9 str_cells h0
  obtain ⟨v1, c1, w1⟩ := field_string Tryd.underlying9 str_cells h1
  refine ⟨⟨v0.data.toList, v1.data.toList⟩, list_eq_of hl rfl ?_, by rw [← Lib.size_eq]; exact w0, by rw [← Lib.size_eq]; exact w1⟩
  intro i hi
  simp only [Fld.cells, S_of]
  match i, hi with
  | 0, _ => exact c0
  | 1, _ => exact c1
/-- a struct that comes in by value -/
theorem read_agg {H : Type} {enc : TypeId × Value → H} {P : Program} {w : World} {base : Nat} {spare : Nat → Bool} {held : Bool} {α : Type} {en : α → List Value} {good : α → Prop}
    {t : TypeId} {v : Value} {d : DataW H} {ps : List MemPlace} (one : ∀ (m : Nat) (cs : List Value) (x : DataW H × List MemPlace), DataW.trod enc P w base spare held m t cs = some x → ∃ a, cs = en a ∧ good a)
    (h : DataW.Trod enc P w base spare held t v d ps) (hv : ∃ cs, v = .agg cs ∧ cs.size = P.cellsOf t) : ∃ a, v = .agg (en a).toArray ∧ good a := by
  obtain ⟨fuel, hf⟩ := h
  obtain ⟨cs, rfl, _⟩ := hv
  obtain ⟨a, ha, hg⟩ := one _ _ _ hf
  exact ⟨a, by rw [← ha]; simp [Value.cells], hg⟩

theorem Calls.below {P : Program} {f : FuncId} {args : Array Value} {w : World} {v : Value} (h : Calls P f args w fun e w' => e = .returned v ∧ Keep [] w w') : Calls P f args w fun e w' => e = .returned v ∧ Below w.heap.size w w' :=
  h.mono fun _ _ h => ⟨h.1, h.2.below (by simp)⟩
theorem ML.shape {W : World} (h : W.ShapedOpen Tryd.prog) : ML W :=
  Go.Proofs.cell_of_shapedOpen_int (zero := #[.int .i64 0]) (t := 3) h (of_decide_eq_true (by kernel_rfl)) (by kernel_rfl) rfl (by kernel_rfl) (by kernel_rfl) Tryd.underlying3

/-- a datum's cells -/
def flatD : Nat → DataW Unit → List Value
  | 0, _ => []
  | n + 1, .agg l => l.flatMap (flatD n)
  | _ + 1, .lit (.int k z) => [.int k z]
  | _ + 1, .lit (.bool b) => [.bool b]
  | _ + 1, .lit (.string s) => [.string ⟨s.toArray⟩]
  | _ + 1, _ => []
/-- the listed variables hold what is listed -/
noncomputable def laidHeap (l : List (String × DataW Unit)) (h : Array Obj) : Array Obj :=
  l.foldl (fun h x => match Tryd.prog.globalNamed x.1 with
    | some g => h.modify g fun
      | .cells _ t fr => .cells (flatD 6 x.2).toArray t fr
      | o => o
    | none => h) h
noncomputable def laidWorld (os : Os) (l : List (String × DataW Unit)) : World :=
  { World.holding Tryd.prog os ⟨#[], #[], []⟩ with heap := laidHeap l (World.holding Tryd.prog os ⟨#[], #[], []⟩).heap }
end Go.Proofs.YtpimfoohpfkciaaDoor

/- The statement OutletExact: its function answers true for every input. No conditions but on the library's table. -/
namespace Go.Proofs.YtpimfoohpfkciaaDoor
open Go.RowKit Go.Shelf

theorem small_next {L : List Fld} {k n : Nat} {x : Fld} (hx : L[k]? = some x) (h : ∀ y ∈ L.take k, y.name.length ≤ n ∧ y.value.length ≤ n) (h1 : x.name.length ≤ n) (h2 : x.value.length ≤ n) : ∀ y ∈ L.take (k + 1), y.name.length ≤ n ∧ y.value.length ≤ n := by
  have e : L.take (k + 1) = L.take k ++ [x] := by rw [List.take_add_one, hx]; rfl
  rw [e]
  intro y hy
  rcases List.mem_append.1 hy with hy | hy
  · exact h y hy
  · have : y = x := by simpa using hy
    subst this
    exact ⟨h1, h2⟩
def bodyNo (s : Int) : Bool := (decide (100 ≤ s) && decide (s < 200)) || decide (s = 204) || decide (s = 304)

end Go.Proofs.YtpimfoohpfkciaaDoor

/- Layer 13, plain laws: a head that is written is read as it was; a request line that is written is read as it was. No program. No conditions but those that each theorem states. -/
namespace Go.Proofs.YtpimfoohpfkciaaDoor
open Go.RowKit Go.Shelf

theorem laid_ok {st : List UInt8} {L : List Fld} (h : laidE st L = 0) : laidS st L = headT st L ∧ L.length ≤ 32 ∧ (∀ f ∈ L, goodF f = true) ∧ (headT st L).length ≤ 4096 := by
  have hs : laidS st L = headT st L := by unfold laidS; rw [if_pos h]
  unfold laidE at h
  cases hk : laidOk L with
  | false => rw [hk] at h; simp at h
  | true =>
    rw [hk, if_pos rfl] at h
    have hl : (headT st L).length ≤ 4096 := by
      by_cases hl : (headT st L).length ≤ 4096
      · exact hl
      · rw [if_neg hl] at h; simp at h
    unfold laidOk at hk
    simp at hk
    exact ⟨hs, hk.1, hk.2, hl⟩
theorem clean_app {a b : List UInt8} (ha : clean a) (hb : clean b) : clean (a ++ b) := by
  intro x hx
  rcases List.mem_append.1 hx with h | h
  · exact ha x h
  · exact hb x h
theorem clean_ite {c : Prop} [Decidable c] {a b : List UInt8} (ha : clean a) (hb : clean b) : clean (if c then a else b) := by split <;> assumption
theorem reason_clean (s : Int) : clean (reasonM s) := by
  unfold reasonM
  repeat (refine clean_ite (by intro x hx; revert x; decide) ?_)
  intro x hx; revert x; decide
theorem dec_dig {n : Nat} (h1 : 100 ≤ n) (h2 : n ≤ 599) : (Lib.itoa (n : Int)).length = 3 ∧ clean (Lib.itoa (n : Int)) := by
  rw [Lib.itoa_nonneg, dec_big (by omega), dec_big (by omega), dec_small (by omega)]
  refine ⟨rfl, ?_⟩
  intro x hx
  have hd : ∀ y : Nat, y < 10 → UInt8.ofNat (48 + y) ≠ 13 ∧ UInt8.ofNat (48 + y) ≠ 10 := by decide
  rcases List.mem_append.1 hx with hx | hx
  · rcases List.mem_append.1 hx with hx | hx
    · rw [List.mem_singleton.1 hx]; exact hd _ (by omega)
    · rw [List.mem_singleton.1 hx]; exact hd _ (by omega)
  · rw [List.mem_singleton.1 hx]; exact hd _ (by omega)
theorem stOf_ok {s : Int} (h : statOk s = true) : clean (stOf s) ∧ 13 ≤ (stOf s).length ∧ (stOf s).length ≤ 1024 ∧ (stOf s).take 9 = [72, 84, 84, 80, 47, 49, 46, 49, 32] ∧ (stOf s).drop 13 = reasonM s := by
  unfold statOk at h
  simp at h
  obtain ⟨n, rfl⟩ : ∃ n : Nat, s = n := ⟨s.toNat, by omega⟩
  obtain ⟨h3, hc⟩ := dec_dig (n := n) (by omega) (by omega)
  have hr := reason_len (n : Int)
  have hcr := reason_clean (n : Int)
  unfold stOf
  generalize Lib.itoa (n : Int) = d at *
  generalize reasonM (n : Int) = r at *
  have hp : clean protB := by intro x hx; revert x; decide
  have h32 : clean [32] := by intro x hx; revert x; decide
  refine ⟨clean_app (clean_app (clean_app (clean_app hp h32) hc) h32) hcr, by simp [protB]; omega, by simp [protB]; omega, by simp [protB], ?_⟩
  match d, h3 with
  | [a, b, c], _ => rfl
theorem ans_read {s : Int} {L : List Fld} (more : List UInt8) (h : ansE s L = 0) : splitM (ansS s L ++ more) = ⟨stOf s, L, (ansS s L).length, 0⟩ ∧ (ansS s L).length ≤ 4096 ∧ 13 ≤ (stOf s).length ∧ (stOf s).take 9 = [72, 84, 84, 80, 47, 49, 46, 49, 32] ∧ (stOf s).drop 13 = reasonM s := by
  cases hs : statOk s with
  | false => rw [(ans_no (L := L) hs).1] at h; simp at h
  | true =>
    obtain ⟨h1, h2⟩ := ans_yes (L := L) hs
    rw [h1] at h
    obtain ⟨h3, h4, h5, h6⟩ := laid_ok h
    obtain ⟨c1, c2, c3, c4, c5⟩ := stOf_ok hs
    rw [h2, h3]
    exact ⟨split_head _ L more c1 (by intro h0; rw [h0] at c2; simp at c2) c3 h5 h4 h6, h6, c2, c4, c5⟩

theorem sep_inj : ∀ {a b c d : List UInt8}, (32 : UInt8) ∉ a → (32 : UInt8) ∉ b → a ++ 32 :: c = b ++ 32 :: d → a = b ∧ c = d
  | [], [], _, _, _, _, h => ⟨rfl, by simpa using h⟩
  | [], y :: b, _, _, _, hb, h => by
    simp at h
    exact absurd h.1 (by intro e; exact hb (by simp [e]))
  | x :: a, [], _, _, ha, _, h => by
    simp at h
    exact absurd h.1 (by intro e; exact ha (by simp [e]))
  | x :: a, y :: b, _, _, ha, hb, h => by
    simp at h
    obtain ⟨h1, h2⟩ := sep_inj (fun hh => ha (by simp [hh])) (fun hh => hb (by simp [hh])) h.2
    exact ⟨by rw [h.1, h1], h2⟩
theorem tok_no32 {l : List UInt8} (h : isTok l = true) : (32 : UInt8) ∉ l := by
  intro hm
  have := (isTok_parts h).1 32 hm
  revert this
  decide
theorem tgt_no {l : List UInt8} (h : isTgt l = true) : (∀ b ∈ l, 33 ≤ b.toNat ∧ b.toNat ≤ 126) ∧ l ≠ [] := by
  unfold isTgt at h
  simp [tgtB] at h
  exact ⟨h.1, h.2⟩
theorem cut_parts {l : List UInt8} {k : Nat} (h : Lib.indexByte l 32 = (k : Nat)) : l = l.take k ++ 32 :: l.drop (k + 1) := by
  have hk := (Lib.indexByte_some h).1
  obtain ⟨h1, h2⟩ := List.getElem?_eq_some_iff.1 hk
  have := List.drop_eq_getElem_cons h1
  rw [h2] at this
  rw [← this, List.take_append_drop]
theorem ask_read {m t : List UInt8} (h : (lnM (askT m t)).s = 200) : lnM (askT m t) = ⟨m, t, 1, 200⟩ ∧ isTok m = true ∧ isTgt t = true := by
  have hbad : (lnBad).s ≠ 200 := by decide
  have hdef : askT m t = (m ++ 32 :: t) ++ 32 :: protB := by unfold askT; simp
  have hge := Lib.indexByte_ge (askT m t) 32
  by_cases hk : Lib.indexByte (askT m t) 32 = -1
  · rw [ln_k hk] at h; exact absurd h hbad
  obtain ⟨k, hk'⟩ : ∃ k : Nat, Lib.indexByte (askT m t) 32 = k := ⟨(Lib.indexByte (askT m t) 32).toNat, by omega⟩
  cases ht : isTok ((askT m t).take k) with
  | false => rw [ln_tok hk' ht] at h; exact absurd h hbad
  | true =>
  have hp1 := cut_parts hk'
  have hge2 := Lib.indexByte_ge ((askT m t).drop (k + 1)) 32
  by_cases hn : Lib.indexByte ((askT m t).drop (k + 1)) 32 = -1
  · rw [ln_n hk' hn] at h; exact absurd h hbad
  obtain ⟨n, hn'⟩ : ∃ n : Nat, Lib.indexByte ((askT m t).drop (k + 1)) 32 = n := ⟨(Lib.indexByte ((askT m t).drop (k + 1)) 32).toNat, by omega⟩
  cases hg : isTgt (((askT m t).drop (k + 1)).take n) with
  | false => rw [ln_tgt hk' hn' hg] at h; exact absurd h hbad
  | true =>
  have hp2 := cut_parts hn'
  have hall := ln_all hk' hn' ht hg
  by_cases hl : (((askT m t).drop (k + 1)).drop (n + 1)).length ≠ 8
  · rw [ln_min hk' hn' (min_len hl)] at h; exact absurd h hbad
  have hl8 : (((askT m t).drop (k + 1)).drop (n + 1)).length = 8 := by omega
  rw [hp2] at hp1
  rw [hall] at h ⊢
  generalize ((askT m t).drop (k + 1)).drop (n + 1) = last at *
  generalize ((askT m t).drop (k + 1)).take n = b at *
  generalize (askT m t).take k = a at *
  have he : (m ++ 32 :: t) ++ 32 :: protB = (a ++ 32 :: b) ++ 32 :: last := by rw [← hdef, hp1]; simp
  obtain ⟨e1, e2⟩ := List.append_inj' he (by simp [protB, hl8])
  have e3 : protB = last := by simpa using e2
  have na := tok_no32 ht
  have nb : (32 : UInt8) ∉ b := fun hb => by have := (tgt_no hg).1 32 hb; revert this; decide
  have hc := congrArg (List.count (32 : UInt8)) e1
  rw [List.count_append, List.count_append, List.count_cons_self, List.count_cons_self, List.count_eq_zero.2 na, List.count_eq_zero.2 nb] at hc
  have nm : (32 : UInt8) ∉ m := List.count_eq_zero.1 (by omega)
  obtain ⟨f1, f2⟩ := sep_inj nm na e1
  subst f1 f2 e3
  have hs : minS protB = 200 := by decide
  rw [if_pos hs]
  exact ⟨by rw [show minV protB = 1 from by decide], ht, hg⟩
theorem askE_read {m t : List UInt8} {L : List Fld} (more : List UInt8) (h : askE m t L = 0) : splitM (askS m t L ++ more) = ⟨askT m t, L, (askS m t L).length, 0⟩ ∧ (askS m t L).length ≤ 4096 ∧ (askT m t).length ≤ 1024 ∧ lnM (askT m t) = ⟨m, t, 1, 200⟩ := by
  cases hs : askOk m t with
  | false => rw [(ask_no (L := L) hs).1] at h; simp at h
  | true =>
    obtain ⟨h1, h2⟩ := ask_yes (L := L) hs
    rw [h1] at h
    obtain ⟨h3, h4, h5, h6⟩ := laid_ok h
    unfold askOk at hs
    simp at hs
    obtain ⟨g1, g2, g3⟩ := ask_read hs.1
    rw [h2, h3]
    have hc : clean (askT m t) := by
      have hm : clean m := fun b hb => ⟨(tchar_clean ((isTok_parts g2).1 b hb)).1, (tchar_clean ((isTok_parts g2).1 b hb)).2.1⟩
      have ht : clean t := by
        intro b hb
        have := (tgt_no g3).1 b hb
        refine ⟨?_, ?_⟩ <;> (rintro rfl; revert this; decide)
      have hp : clean protB := by intro x hx; revert x; decide
      have h32 : clean [32] := by intro x hx; revert x; decide
      unfold askT
      exact clean_app (clean_app (clean_app (clean_app hm h32) ht) h32) hp
    exact ⟨split_head _ L more hc (by unfold askT; simp) hs.2 h5 h4 h6, h6, hs.2, g1⟩
end Go.Proofs.YtpimfoohpfkciaaDoor

/- Layer 12: requests that stand in one row: plain laws; size; calls of no inlet. No conditions but on lengths. -/
namespace Go.Proofs.YtpimfoohpfkciaaDoor
open Go.RowKit Go.Shelf

def getB : List UInt8 := [71, 69, 84]
def dgL (n : Nat) : UInt8 := UInt8.ofNat (48 + n)
def sizeL (n : Nat) : List UInt8 := if 100 ≤ n then [dgL (n / 100), dgL (n / 10 % 10), dgL (n % 10)] else if 10 ≤ n then [dgL (n / 10 % 10), dgL (n % 10)] else [dgL (n % 10)]
def pK (n : Nat) : List Fld := [⟨nHost, [104]⟩, ⟨nCL, sizeL n⟩]
def pmsg (t b : List UInt8) : List UInt8 := headT (askT getB t) (pK b.length) ++ b
theorem pK_ok (n : Nat) (h : n ≤ 100) : (∀ f ∈ pK n, goodF f = true) ∧ getN (pK n) nHost = 1 ∧ (frameM (pK n) 4096).n = (n : Int) ∧ (frameM (pK n) 4096).ch = false ∧ (frameM (pK n) 4096).e = 0 ∧ (bodyT (pK n)).length ≤ 30 := by
  have key : ∀ n : Fin 101, ((pK n.1).all goodF = true) ∧ getN (pK n.1) nHost = 1 ∧ (frameM (pK n.1) 4096).n = ((n.1 : Nat) : Int) ∧ (frameM (pK n.1) 4096).ch = false ∧ (frameM (pK n.1) 4096).e = 0 ∧ (bodyT (pK n.1)).length ≤ 30 := by decide +kernel
  obtain ⟨h1, h2⟩ := key ⟨n, by omega⟩
  exact ⟨List.all_eq_true.1 h1, h2⟩
theorem ask_clean {m t : List UInt8} (g2 : isTok m = true) (g3 : isTgt t = true) : clean (askT m t) := by
  have hm : clean m := fun b hb => ⟨(tchar_clean ((isTok_parts g2).1 b hb)).1, (tchar_clean ((isTok_parts g2).1 b hb)).2.1⟩
  have ht : clean t := by
    intro b hb
    have := (tgt_no g3).1 b hb
    refine ⟨?_, ?_⟩ <;> (rintro rfl; revert this; decide)
  have hp : clean protB := by intro x hx; revert x; decide
  have h32 : clean [32] := by intro x hx; revert x; decide
  unfold askT
  exact clean_app (clean_app (clean_app (clean_app hm h32) ht) h32) hp
theorem ask_len (m t : List UInt8) : (askT m t).length = m.length + t.length + 10 := by unfold askT; simp [protB]; omega
theorem pmsg_len (t b : List UInt8) (ht : t.length ≤ 100) (hb : b.length ≤ 100) : (pmsg t b).length ≤ 250 := by
  have h1 := (pK_ok b.length hb).2.2.2.2.2
  have h2 := ask_len getB t
  unfold pmsg headT
  simp only [List.length_append, List.length_cons, List.length_nil]
  rw [show getB.length = 3 from rfl] at h2
  omega
/-- one request whose head has a length -/
theorem pipe_next {t b : List UInt8} (rest : List UInt8) (h : (lnM (askT getB t)).s = 200) (ht : t.length ≤ 100) (hb : b.length ≤ 100) :
    nextI { in0 with inp := pmsg t b ++ rest } = ⟨{ in0 with inp := rest }, ⟨getB, t, pK b.length, closesM (pK b.length) 1⟩, 200⟩ := by
  obtain ⟨r1, r2, r3⟩ := ask_read h
  obtain ⟨k1, k2, k3, k4, k5, k6⟩ := pK_ok b.length hb
  have hl := ask_len getB t
  rw [show getB.length = 3 from rfl] at hl
  have hlen : (headT (askT getB t) (pK b.length)).length ≤ 4096 := by unfold headT; simp only [List.length_append, List.length_cons, List.length_nil]; omega
  have hsp := split_head (askT getB t) (pK b.length) (b ++ rest) (ask_clean r2 r3) (by intro h0; rw [h0] at hl; simp at hl) (by omega) k1 (by simp [pK]) hlen
  have hap : pmsg t b ++ rest = headT (askT getB t) (pK b.length) ++ (b ++ rest) := by unfold pmsg; rw [List.append_assoc]
  have hH : headM (pmsg t b ++ rest) = ⟨0, true, (headT (askT getB t) (pK b.length)).length, ⟨getB, t, pK b.length, closesM (pK b.length) 1⟩, b.length, false⟩ := by
    rw [hap]
    unfold headM
    rw [hsp]
    dsimp only
    rw [if_neg (by simp), r1]
    dsimp only
    rw [if_neg (by simp), if_neg (by rw [k2]; omega), if_neg (by rw [k5]; simp), k3, k4]
    have : (max ((b.length : Nat) : Int) 0).toNat = b.length := by omega
    rw [this]
  rw [next_none rfl rfl, show ({ in0 with inp := pmsg t b ++ rest } : InS).inp = pmsg t b ++ rest from rfl, hH]
  dsimp only
  rw [if_neg (by simp), if_pos rfl]
  have hd : headed { in0 with inp := pmsg t b ++ rest } ⟨0, true, (headT (askT getB t) (pK b.length)).length, ⟨getB, t, pK b.length, closesM (pK b.length) 1⟩, b.length, false⟩ = ⟨b ++ rest, (headT (askT getB t) (pK b.length)).length, some ⟨getB, t, pK b.length, closesM (pK b.length) 1⟩, b.length, none, 0⟩ := by
    refine inS_ext ?_ rfl rfl rfl rfl rfl
    show (pmsg t b ++ rest).drop (headT (askT getB t) (pK b.length)).length = b ++ rest
    rw [hap, List.drop_left]
  rw [hd, tail_none _ rfl (by simp)]
  refine nxR_ext (inS_ext ?_ rfl rfl rfl rfl rfl) rfl rfl
  show (b ++ rest).drop b.length = rest
  rw [List.drop_left]
def flatM (Ms : List (List UInt8 × List UInt8)) : List UInt8 := Ms.flatMap fun m => pmsg m.1 m.2
def goodM (m : List UInt8 × List UInt8) : Prop := (lnM (askT getB m.1)).s = 200 ∧ m.1.length ≤ 100 ∧ m.2.length ≤ 100
theorem flatM_snoc (Ms : List (List UInt8 × List UInt8)) (m : List UInt8 × List UInt8) : flatM (Ms ++ [m]) = flatM Ms ++ pmsg m.1 m.2 := by unfold flatM; simp
theorem pipes_all : ∀ (Ms : List (List UInt8 × List UInt8)), (∀ m ∈ Ms, goodM m) → ∃ L, Alls { in0 with inp := flatM Ms } L 0 in0 ∧ L.map (·.t) = Ms.map (·.1) ∧ ∀ q ∈ L, q.m = getB
  | [], _ => ⟨[], alls_nil, rfl, by simp⟩
  | m :: Ms, h => by
    obtain ⟨L, h1, h2, h3⟩ := pipes_all Ms (fun x hx => h x (by simp [hx]))
    obtain ⟨g1, g2, g3⟩ := h m (by simp)
    have hn := pipe_next (flatM Ms) g1 g2 g3
    have hf : flatM (m :: Ms) = pmsg m.1 m.2 ++ flatM Ms := by unfold flatM; simp
    rw [← hf] at hn
    have := Alls.more (p := { in0 with inp := flatM (m :: Ms) }) (L := L) (n := 0) (p' := in0) (by rw [hn]) (by rw [hn]; exact h1)
    rw [hn] at this
    exact ⟨_, this, by simp [h2], by
      intro q hq
      rcases List.mem_cons.1 hq with rfl | hq
      · rfl
      · exact h3 q hq⟩
theorem inp_ok {l : List UInt8} (h : l.length ≤ 16384) : ({ in0 with inp := l } : InS).ok := ⟨by simpa [in0] using h, by simp [in0], by simp [in0], by simp [in0], by simp [in0], by simp [in0]⟩

theorem dec_cut {r : Nat} (h : r < 10) : (⟨#[48, 49, 50, 51, 52, 53, 54, 55, 56, 57]⟩ : ByteArray).extract r (r + 1) = S [dgL r] := by
  have : ∀ r : Fin 10, (⟨#[48, 49, 50, 51, 52, 53, 54, 55, 56, 57]⟩ : ByteArray).extract r.1 (r.1 + 1) = S [dgL r.1] := by decide +kernel
  exact this ⟨r, h⟩
theorem nat_mod10 (m : Nat) : (m : Int).tmod 10 = ((m % 10 : Nat) : Int) ∧ (m : Int) % 10 = ((m % 10 : Nat) : Int) := ⟨by rw [Int.tmod_eq_emod_of_nonneg (by omega)]; omega, by omega⟩
theorem nat_div10 (m : Nat) : (m : Int).tdiv 10 = ((m / 10 : Nat) : Int) ∧ (m : Int) / 10 = ((m / 10 : Nat) : Int) := ⟨by rw [Int.tdiv_eq_ediv_of_nonneg (by omega)]; omega, by omega⟩
theorem nat_div100 (m : Nat) : (m : Int).tdiv 100 = ((m / 100 : Nat) : Int) ∧ (m : Int) / 100 = ((m / 100 : Nat) : Int) := ⟨by rw [Int.tdiv_eq_ediv_of_nonneg (by omega)]; omega, by omega⟩
set_option maxRecDepth 100000 in
set_option maxHeartbeats 2000000 in
theorem law12_size (n : Nat) (hn : n ≤ 100) (w : World) : Calls Tryd.prog 8 #[.int .i64 (n : Nat)] w fun e w' => e = .returned (.string (S (sizeL n))) ∧ w = w' := by
  have hf : sizeL n = if 100 ≤ n then [dgL (n / 100), dgL (n / 10 % 10), dgL (n % 10)] else if 10 ≤ n then [dgL (n / 10 % 10), dgL (n % 10)] else [dgL (n % 10)] := rfl
  obtain ⟨m1, m1'⟩ := nat_mod10 n
  obtain ⟨d1, d1'⟩ := nat_div10 n
  obtain ⟨e1, e1'⟩ := nat_div100 n
  obtain ⟨m2, m2'⟩ := nat_mod10 (n / 10)
  have ha : n % 10 < 10 := Nat.mod_lt _ (by omega)
  have hb : n / 10 % 10 < 10 := Nat.mod_lt _ (by omega)
  have hc : n / 100 < 10 := by omega
  have c1 := dec_cut ha
  have c2 := dec_cut hb
  have c3 := dec_cut hc
  have hap1 : S [dgL (n / 10 % 10)] ++ S [dgL (n % 10)] = S [dgL (n / 10 % 10), dgL (n % 10)] := S_append _ _
  have hap2 : S [dgL (n / 100)] ++ S [dgL (n / 10 % 10), dgL (n % 10)] = S [dgL (n / 100), dgL (n / 10 % 10), dgL (n % 10)] := S_append _ _
  generalize sizeL n = L at hf ⊢
  generalize hA : n % 10 = a at *
  generalize hB : n / 10 % 10 = b at *
  generalize hC : n / 100 = c at *
  generalize hD : n / 10 = d at *
  generalize dgL a = xa at *
  generalize dgL b = xb at *
  generalize dgL c = xc at *
  have s1 := S_size [xa]
  have s2 := S_size [xb]
  have s3 := S_size [xc]
  have s4 := S_size [xb, xa]
  simp only [List.length_cons, List.length_nil] at s1 s2 s3 s4
  have wa := IntWalk.i64_in ((a : Int) + 1) (by omega)
  have wb := IntWalk.i64_in ((b : Int) + 1) (by omega)
  have wc := IntWalk.i64_in ((c : Int) + 1) (by omega)
  have na : ((a : Int) + 1).toNat = a + 1 := by omega
  have nb : ((b : Int) + 1).toNat = b + 1 := by omega
  have nc : ((c : Int) + 1).toNat = c + 1 := by omega
  have a0 : (0 : Int) ≤ (a : Int) := by omega
  have a1 : (a : Int) + 1 ≤ 10 := by omega
  have a2 : (a : Int) ≤ (a : Int) + 1 := by omega
  have b0 : (0 : Int) ≤ (b : Int) := by omega
  have b1 : (b : Int) + 1 ≤ 10 := by omega
  have b2 : (b : Int) ≤ (b : Int) + 1 := by omega
  have c0 : (0 : Int) ≤ (c : Int) := by omega
  have c1' : (c : Int) + 1 ≤ 10 := by omega
  have c2' : (c : Int) ≤ (c : Int) + 1 := by omega
  have p1 : decide ((n : Int) ≥ 10) = decide (10 ≤ n) := by rw [decide_eq_decide]; omega
  have p2 : decide ((n : Int) ≥ 100) = decide (100 ≤ n) := by rw [decide_eq_decide]; omega
  clear hA hB hC hD
  by_cases h1 : 100 ≤ n
  · rw [if_pos h1] at hf
    rw [decide_eq_true (show 10 ≤ n by omega)] at p1
    rw [decide_eq_true h1] at p2
    have HF := Lib.hid hf
    clear hf h1
    go_enter Tryd.func8, Tryd.ntmps8
    go_wp2_with fail
    go_ret
    exact ⟨by rw [HF.out]; rfl, rfl⟩
  · rw [if_neg h1] at hf
    rw [decide_eq_false h1] at p2
    by_cases h2 : 10 ≤ n
    · rw [if_pos h2] at hf
      rw [decide_eq_true h2] at p1
      have HF := Lib.hid hf
      clear hf h1 h2
      go_enter Tryd.func8, Tryd.ntmps8
      go_wp2_with fail
      go_ret
      exact ⟨by rw [HF.out]; rfl, rfl⟩
    · rw [if_neg h2] at hf
      rw [decide_eq_false h2] at p1
      have HF := Lib.hid hf
      clear hf h1 h2
      go_enter Tryd.func8, Tryd.ntmps8
      go_wp2_with fail
      go_ret
      exact ⟨by rw [HF.out]; rfl, rfl⟩
set_option maxRecDepth 100000 in
theorem nilI_Add (s : List UInt8) (w : World) : Calls Tryd.prog 9 #[.pointer none, .string (S s)] w fun e w' => e = .returned (.int .i64 2) ∧ w = w' := by
  go_enter Tryd.func9, Tryd.ntmps9
  go_wp2_with fail
  go_ret
  exact ⟨rfl, rfl⟩
set_option maxRecDepth 100000 in
theorem nilI_Left (w : World) : Calls Tryd.prog 11 #[.pointer none] w fun e w' => e = .returned (.int .i64 0) ∧ w = w' := by
  go_enter Tryd.func11, Tryd.ntmps11
  go_wp2_with fail
  go_ret
  exact ⟨rfl, rfl⟩
set_option maxRecDepth 100000 in
theorem nilI_wrong (w : World) : Calls Tryd.prog 20 #[.pointer none] w fun e w' => e = .returned (.int .i64 0) ∧ w = w' := by
  go_enter Tryd.func20, Tryd.ntmps20
  go_wp2_with fail
  go_ret
  exact ⟨rfl, rfl⟩
set_option maxRecDepth 100000 in
set_option maxHeartbeats 2000000 in
theorem nilI_Next (w : World) : Calls Tryd.prog 12 #[.pointer none] w fun e w' => e = .returned (.tuple #[.agg reqZ.toArray, .int .i64 0]) ∧ Keep [] w w' := by
  have kA := (Keep.refl [] w).alloc (.cells reqZ.toArray 37)
  have bA := Blk.newA w reqZ.toArray 37
  have zst := req_st [] [] (v := .slice none 0 0) false rfl
  generalize hwA : w.alloc (.cells #[.string ⟨#[]⟩, .string ⟨#[]⟩, .slice none 0 0, .bool false] 37) = wA
  have hwA' : w.alloc (.cells reqZ.toArray 37) = wA := hwA
  rw [hwA'] at kA bA
  have HT := Lib.hid ((show Blk wA w.heap.size 37 reqZ from bA).there' 0 4 (by simp [reqZ, reqC]))
  have HLd := Lib.hid (reqZ_back HT.out)
  have KA := Lib.hid kA
  have ZST := Lib.hid zst
  have HW := Lib.hid (fun w' => nilI_wrong w')
  clear kA bA hwA' zst
  go_enter Tryd.func12, Tryd.ntmps12
  go_wp2_with fail
  refine (HW.out _).mono ?_
  rintro e w1 ⟨rfl, rfl⟩
  clear hwA
  go_wp2_with (first
    | (with_reducible (show wpList _ _ _ ((⟨none, .store _ (.tmp 2) (.tmp 17), _, _, _, none⟩ : Oper) :: _) _ _)
       refine wpList_store_mid rfl 37 (.tmp 2) (.tmp 17) rfl w.heap.size 0 reqZ.toArray (by rfl) (by first | rfl | kernel_rfl) HT.out ZST.out.1 ZST.out.2 ?_
       try simp only [Act.put])
    | fail)
  refine bodyPost_ret (v := .tuple #[.agg reqZ.toArray, .int .i64 0]) (by have hl := HLd.out; simp [results, Tryd.results12, asAddr, Result.andThen, hl]) rfl ⟨rfl, ?_⟩
  exact Keep.setCells' _ (fun hh => absurd hh (by omega)) _ _ _ KA.out
end Go.Proofs.YtpimfoohpfkciaaDoor

/- Layer 12: what the statements are awake to; the statement InletLines. No conditions. -/
namespace Go.Proofs.YtpimfoohpfkciaaDoor
open Go.RowKit Go.Shelf

def aiS1 : List UInt8 := [71, 69, 84, 32, 47, 118, 50, 47, 32, 72, 84, 84, 80, 47, 49, 46, 49, 13, 10, 72, 111, 115, 116, 58, 32, 97, 13, 10, 13, 10, 71, 69, 84]
def aiS2 : List UInt8 := [71, 69, 84, 32, 47, 32, 72, 84, 84, 80, 47, 49, 46, 49, 13, 10, 72, 111, 115, 116, 58, 32, 97, 13, 10, 67, 111, 110, 116, 101, 110, 116, 45, 76, 101, 110, 103, 116, 104, 58, 32, 53, 48, 48, 48, 13, 10, 13, 10]
def aiS3 : List UInt8 := [71, 69, 84, 32, 47, 32, 72, 84, 84, 80, 47, 50, 46, 48]
def aiI1 : InS := { in0 with inp := aiS1 }
def aiI2 : InS := { in0 with inp := [71, 69, 84] }
def aiJ1 : InS := { in0 with inp := aiS2 }
def aiQ : Req := ⟨[71, 69, 84], [47, 118, 50, 47], [⟨[72, 111, 115, 116], [97]⟩], false⟩
theorem ai1 : inAdd in0 aiS1 = (aiI1, 0) := by kernel_rfl
theorem ai2 : nextI aiI1 = ⟨aiI2, aiQ, 200⟩ := by kernel_rfl
theorem ai3 : nextI aiI2 = ⟨aiI2, req0, 0⟩ := by kernel_rfl
theorem ai4 : inAdd in0 aiS2 = (aiJ1, 0) := by kernel_rfl
theorem ai5 : nextI aiJ1 = ⟨{ aiJ1 with st := 413 }, req0, 413⟩ := by kernel_rfl
theorem ai6 : lnM aiS3 = ⟨[], [], 0, 505⟩ := by kernel_rfl
theorem aiI1_ok : aiI1.ok := by have h := inAdd_ok in0_ok aiS1; rw [ai1] at h; exact h
theorem aiI2_ok : aiI2.ok := by have h := next_ok aiI1_ok; rw [ai2] at h; exact h
theorem aiJ1_ok : aiJ1.ok := by have h := inAdd_ok in0_ok aiS2; rw [ai4] at h; exact h
set_option maxRecDepth 100000 in
set_option maxHeartbeats 8000000 in
theorem inlet_awake (w : World) (hm : ML w) : Calls Tryd.prog 5 #[] w fun e w' => e = .returned (.bool true) ∧ Keep [] w w' := by
  have hbig := hm.lt
  have HM := Lib.hid hm
  have HN := Lib.hid (fun w' (k : Keep [] w w') => inlet_New w.heap.size w' k.size)
  have HLn := Lib.hid (fun w' (k : Keep [] w w') => inlet_Line aiS3 w' (hm.keep k (by simp)) (by decide))
  rw [ai6] at HLn
  unfold Ln.out at HLn
  dsimp only at HLn
  have t1 := S_toList [71, 69, 84]
  have t2 := S_toList [47, 118, 50, 47]
  clear hm
  go_enter Tryd.func5, Tryd.ntmps5
  go_wp2_with fail
  refine (HN.out _ (Keep.refl _ _)).mono ?_
  rintro e w1 ⟨p, rfl, hp, hx, k1⟩
  have K1 := Lib.hid k1
  have HA := Lib.hid (inlet_Add aiS1 hx (by decide) (by decide))
  rw [ai1] at HA
  have P1 := Lib.hid hx
  clear hx k1
  go_wp2_with fail
  refine HA.out.mono ?_
  rintro e w2 ⟨rfl, hx, k2⟩
  have K2 := Lib.hid (K1.out.above k2 (by intro x hh; simp at hh; omega))
  have HX := Lib.hid (inlet_Next hx (HM.out.keep K2.out (by simp)) K2.out.size hbig aiI1_ok)
  rw [ai2] at HX
  unfold NextOut at HX
  dsimp only at HX
  have P2 := Lib.hid hx
  clear hx k2 HA P1
  go_wp2_with fail
  refine HX.out.mono ?_
  rintro e w3 ⟨v, X3, R3, rfl, hx, k3, n3, r3, ho, hg⟩
  obtain ⟨sa, sc, rfl, _⟩ := ho.shape
  have K3 := Lib.hid (K2.out.above k3 (fun x hh => (P2.out.lo x hh).1))
  have kA := (Keep.refl [] w3).alloc (.cells (reqC aiQ.m aiQ.t (.slice sa aiQ.F.length sc) aiQ.cl).toArray 37)
  have bA := Blk.newA w3 (reqC aiQ.m aiQ.t (.slice sa aiQ.F.length sc) aiQ.cl).toArray 37
  generalize hwA : w3.alloc (.cells (reqC aiQ.m aiQ.t (.slice sa aiQ.F.length sc) aiQ.cl).toArray 37) = wA at kA bA
  have P3 := Lib.hid (hx.keep0 kA)
  have KA := Lib.hid (K3.out.trans kA)
  have BA := Lib.hid (show Blk wA w3.heap.size 37 (reqC aiQ.m aiQ.t (.slice sa aiQ.F.length sc) aiQ.cl) from bA)
  have hnX := Lib.hid (show w3.heap.size ∉ X3 from fun hh => by have := (hx.lo _ hh).2; omega)
  have HX2 := Lib.hid (inlet_Next P3.out (HM.out.keep KA.out (by simp)) KA.out.size hbig aiI2_ok)
  rw [ai3] at HX2
  unfold NextOut at HX2
  dsimp only at HX2
  have HO1 := Lib.hid (reqC_one aiQ.m aiQ.t (v := .slice sa aiQ.F.length sc) aiQ.cl rfl)
  clear hx k3 n3 r3 ho hg kA bA HX P2 K1 K2
  go_wp2_with (first
    | (with_reducible (show wpList _ _ _ ((⟨none, .store _ (.tmp 2) (.tmp 24), _, _, _, none⟩ : Oper) :: _) _ _)
       refine wpList_store_fresh rfl 37 (.tmp 2) (.tmp 24) rfl _ (reqC aiQ.m aiQ.t (.slice sa aiQ.F.length sc) aiQ.cl) (by rfl) (by rfl) req_size (by rfl) HO1.out ?_
       rw [hwA]
       try simp only [Act.put])
    | fail)
  refine HX2.out.mono ?_
  rintro e w4 ⟨v, X4, R4, rfl, hx, k4, n4, r4, ho, hg⟩
  obtain ⟨sb, sd, rfl, _⟩ := ho.shape
  have K4 := Lib.hid (KA.out.above k4 (fun x hh => (P3.out.lo x hh).1))
  have B4 := Lib.hid (k4.blk BA.out hnX.out)
  have kB := (Keep.refl [] w4).alloc (.cells (reqC req0.m req0.t (.slice sb req0.F.length sd) req0.cl).toArray 37)
  generalize hwB : w4.alloc (.cells (reqC req0.m req0.t (.slice sb req0.F.length sd) req0.cl).toArray 37) = wB at kB
  have P4 := Lib.hid (hx.keep0 kB)
  have KB := Lib.hid (K4.out.trans kB)
  have BB := Lib.hid (kB.blk B4.out (by simp))
  have HO2 := Lib.hid (reqC_one req0.m req0.t (v := .slice sb req0.F.length sd) req0.cl rfl)
  clear hx k4 n4 r4 ho hg kB HX2 hnX BA KA P3 B4 K4 hwA HO1
  go_wp2_with (first
    | (with_reducible (show wpList _ _ _ ((⟨none, .store _ (.tmp 4) (.tmp 29), _, _, _, none⟩ : Oper) :: _) _ _)
       refine wpList_store_fresh rfl 37 (.tmp 4) (.tmp 29) rfl _ (reqC req0.m req0.t (.slice sb req0.F.length sd) req0.cl) (by rfl) (by rfl) req_size (by rfl) HO2.out ?_
       rw [hwB]
       try simp only [Act.put])
    | fail)
  refine (HN.out _ KB.out).mono ?_
  rintro e w5 ⟨q, rfl, hq, hx, k5⟩
  have K5 := Lib.hid (KB.out.trans k5)
  have P5 := Lib.hid (P4.out.keep0 k5)
  have B5 := Lib.hid (k5.blk BB.out (by simp))
  have HA := Lib.hid (inlet_Add aiS2 hx (by decide) (by decide))
  rw [ai4] at HA
  have Q5 := Lib.hid hx
  have hs1 := P4.out.lo
  have hs2 := P4.out.ro
  have hb1 := BB.out.lt
  have SP := Lib.hid (show (∀ x ∈ X4, x ∉ [q]) ∧ (∀ x ∈ R4, x ∉ [q]) ∧ w3.heap.size ∉ [q] from ⟨fun x hh => by have := (hs1 x hh).2; simp; omega, fun x hh => by have := (hs2 x hh).2.1; simp; omega, by simp; omega⟩)
  clear hx k5 hs1 hs2 hb1 hwB HO2 KB P4 BB
  go_wp2_with fail
  refine HA.out.mono ?_
  rintro e w6 ⟨rfl, hx, k6⟩
  have K6 := Lib.hid (K5.out.above k6 (by intro x hh; have := (Q5.out.lo x (by simpa using hh)).1; omega))
  have P6 := Lib.hid (P5.out.keep k6 SP.out.1 SP.out.2.1)
  have B6 := Lib.hid (k6.blk B5.out SP.out.2.2)
  have HX := Lib.hid (inlet_Next hx (HM.out.keep K6.out (by simp)) K6.out.size hbig aiJ1_ok)
  rw [ai5] at HX
  unfold NextOut at HX
  dsimp only at HX
  have Q6 := Lib.hid hx
  clear hx k6 HA Q5 K5 P5 B5
  go_wp2_with fail
  refine HX.out.mono ?_
  rintro e w7 ⟨v, X7, R7, rfl, hx, k7, n7, r7, ho, hg⟩
  obtain ⟨sb, sd, rfl, _⟩ := ho.shape
  have K7 := Lib.hid (K6.out.above k7 (fun x hh => (Q6.out.lo x hh).1))
  have P7 := Lib.hid (P6.out.keep k7 SP.out.1 SP.out.2.1)
  have B7 := Lib.hid (k7.blk B6.out SP.out.2.2)
  have kB := (Keep.refl [] w7).alloc (.cells (reqC req0.m req0.t (.slice sb req0.F.length sd) req0.cl).toArray 37)
  generalize hwB : w7.alloc (.cells (reqC req0.m req0.t (.slice sb req0.F.length sd) req0.cl).toArray 37) = wB at kB
  have P8 := Lib.hid (P7.out.keep0 kB)
  have Q8 := Lib.hid (hx.keep0 kB)
  have K8 := Lib.hid (K7.out.trans kB)
  have B8 := Lib.hid (kB.blk B7.out (by simp))
  have HO2 := Lib.hid (reqC_one req0.m req0.t (v := .slice sb req0.F.length sd) req0.cl rfl)
  clear hx k7 n7 r7 ho hg kB HX Q6 K6 P6 B6 SP K7 P7 B7
  go_wp2_with (first
    | (with_reducible (show wpList _ _ _ ((⟨none, .store _ (.tmp 7) (.tmp 37), _, _, _, none⟩ : Oper) :: _) _ _)
       refine wpList_store_fresh rfl 37 (.tmp 7) (.tmp 37) rfl _ (reqC req0.m req0.t (.slice sb req0.F.length sd) req0.cl) (by rfl) (by rfl) req_size (by rfl) HO2.out ?_
       rw [hwB]
       try simp only [Act.put])
    | fail)
  refine (HLn.out _ K8.out).mono ?_
  rintro e w9 ⟨rfl, k9⟩
  have K9 := Lib.hid (K8.out.trans k9)
  have B9 := k9.blk B8.out (by simp)
  have b0 := B9.get (k := 0) (v := .string (S [71, 69, 84])) rfl
  have b1 := B9.get (k := 1) (v := .string (S [47, 118, 50, 47])) rfl
  have b2 := B9.get (k := 2) (v := .slice sa 1 sc) rfl
  have b3 := B9.get (k := 3) (v := .bool false) rfl
  have HL := Lib.hid (inlet_Left (P8.out.keep0 k9) (by decide))
  have hl3 : aiI2.left = 3 := rfl
  rw [hl3] at HL
  have Q9 := Lib.hid (Q8.out.keep0 k9)
  clear hwB HO2 K8 P8 B8 Q8 k9 B9 HLn hl3
  go_wp2_with fail
  refine HL.out.mono ?_
  rintro e w10 ⟨rfl, k10⟩
  have K10 := Lib.hid (K9.out.trans k10)
  have HA := Lib.hid (inlet_Add [120] (Q9.out.keep0 k10) (by decide) (by decide))
  have h8 : (inAdd { aiJ1 with st := 413 } [120]).2 = 8 := by kernel_rfl
  rw [h8] at HA
  have hX7 := Lib.hid (Q9.out.base)
  clear h8 k10 HL
  go_wp2_with fail
  refine HA.out.mono ?_
  rintro e w11 ⟨rfl, _, k11⟩
  have K11 := Lib.hid (K10.out.above k11 (by intro x hh; have := hX7.out; simp at hh; omega))
  clear k11
  go_wp2_with fail
  go_ret
  exact ⟨rfl, K11.out⟩

end Go.Proofs.YtpimfoohpfkciaaDoor
