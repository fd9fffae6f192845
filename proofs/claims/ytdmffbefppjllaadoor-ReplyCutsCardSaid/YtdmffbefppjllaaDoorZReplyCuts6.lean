/- Parts of the proof of ReplyCuts, in order. No conditions but those that each theorem states. -/
import Derived.Test.YtdmffbefppjllaaDoorZReplyCuts5
/- Layer 14: what comes of a reply till nothing does ('come'). No conditions but on lengths. -/
namespace Go.Proofs.YtdmffbefppjllaaDoor
open Go.RowKit Go.Shelf

theorem comeR_step (m : Nat) (Q : ReS) (a : Ans) (d : List UInt8) {r : NrR} (hr : nextR Q = r) : comeR (m + 1) Q a d = if r.k = 1 then comeR m r.p r.a d else if r.k = 2 then comeR m r.p a (d ++ r.s) else ⟨r.p, a, d, r.k⟩ := by subst hr; rfl
theorem nextR_s {Q : ReS} {n : Nat} (h : Q.ok n) : (nextR Q).s.length ≤ n := by
  have hE := (reEnd_ok h).wt
  have h2 : (reEnd Q).dat.length ≤ n := by unfold ReS.wt at hE; omega
  rw [nextR_eq]
  split
  · simp
  · split
    · exact h2
    · simp
theorem Blk.over {b : Nat} {T : TypeId} : ∀ (vs : List Value) {w : World} {pre xs : List Value}, xs.length = vs.length → Blk w b T (pre ++ xs) → Blk (w.setCells b pre.length vs) b T (pre ++ vs)
  | [], w, pre, [], _, h => h
  | [], w, pre, x :: xs, hl, _ => by simp at hl
  | v :: r, w, pre, [], hl, _ => by simp at hl
  | v :: r, w, pre, x :: xs, hl, h => by
    rw [World.setCells]
    have h2 := h.set pre.length v
    have e : (pre ++ x :: xs).set pre.length v = (pre ++ [v]) ++ xs := by simp
    rw [e] at h2
    have := Blk.over r (pre := pre ++ [v]) (by simpa using hl) h2
    simpa using this
theorem Blk.over0 {b : Nat} {T : TypeId} {w : World} {xs vs : List Value} (h : Blk w b T xs) (hl : xs.length = vs.length) : Blk (w.setCells b 0 vs) b T vs := Blk.over vs (pre := []) hl h
/-- come under way: the result's block, the head's block -/
def CmS (w0 w : World) (p n lim : Nat) (X L : List Nat) (P : ReS) (k : Nat) (d : List UInt8) (wr : World) : Prop :=
  ∃ sa sl sc X1 Q a, Rp w0 wr p X1 Q n (w.heap.size :: (w.heap.size + 1) :: ((Value.slice sa sl sc).ownBlock.toList ++ L)) ∧ Keep X w wr ∧ (∀ x ∈ X1, x ∈ X ∨ w.heap.size + 1 < x) ∧
    Blk wr w.heap.size 33 ansZ ∧ Blk wr (w.heap.size + 1) 33 (ansC a.st (.slice sa sl sc) a.len a.ch a.cl) ∧ Own Fld.cells 2 w0.heap.size 69 wr (.slice sa sl sc) a.F ∧
    (∀ g, (Value.slice sa sl sc).ownBlock = some g → w.heap.size + 1 < g) ∧ comeR (lim - k) Q a d = comeR lim P ans0 []
/-- what come comes to -/
def CmOut (w0 w : World) (p : Nat) (X : List Nat) (n : Nat) (L : List Nat) (r : CmR) (e : Ending) (w' : World) : Prop :=
  ∃ sa sl sc X', e = .returned (.tuple #[.agg (ansC r.a.st (.slice sa sl sc) r.a.len r.a.ch r.a.cl).toArray, .string (S r.d), .int .i64 r.k]) ∧ Rp w0 w' p X' r.p n L ∧ Keep X w w' ∧ (∀ x ∈ X', x ∈ X ∨ w.heap.size ≤ x) ∧ Own Fld.cells 2 w0.heap.size 69 w' (.slice sa sl sc) r.a.F ∧ ∀ g, (Value.slice sa sl sc).ownBlock = some g → w.heap.size ≤ g ∧ g ∉ X'
/-- the end: the head is stored into the result -/
theorem CmS.fin {w0 w wr : World} {p n lim k : Nat} {X L : List Nat} {P : ReS} {d : List UInt8} {sa : Option Addr} {sl sc : Nat} {X1 : List Nat} {Q : ReS} {a : Ans} (kk : Int)
    (h : Rp w0 wr p X1 Q n (w.heap.size :: (w.heap.size + 1) :: ((Value.slice sa sl sc).ownBlock.toList ++ L))) (hk : Keep X w wr) (hx : ∀ x ∈ X1, x ∈ X ∨ w.heap.size + 1 < x) (ho : Own Fld.cells 2 w0.heap.size 69 wr (.slice sa sl sc) a.F)
    (hg : ∀ g, (Value.slice sa sl sc).ownBlock = some g → w.heap.size + 1 < g) (hw0 : w0.heap.size ≤ w.heap.size) (_ : k = k) {r : CmR} (hr : r = ⟨Q, a, d, kk⟩) (_ : lim = lim) (_ : P = P) :
    CmOut w0 w p X n L r (.returned (.tuple #[.agg (ansC a.st (.slice sa sl sc) a.len a.ch a.cl).toArray, .string (S d), .int .i64 kk])) (wr.setCells w.heap.size 0 (ansC a.st (.slice sa sl sc) a.len a.ch a.cl)) := by
  subst hr
  have kS : Keep [w.heap.size] wr (wr.setCells w.heap.size 0 (ansC a.st (.slice sa sl sc) a.len a.ch a.cl)) := Keep.setCells' (S := [w.heap.size]) _ (by simp) _ _ _ (Keep.refl _ _)
  have hne : ∀ x ∈ X1, x ∉ [w.heap.size] := fun x hx' hh => by
    have h9 : x = w.heap.size := (by simpa using hh)
    exact (h.ap w.heap.size (by simp)).1 (h9 ▸ hx')
  refine ⟨sa, sl, sc, X1, rfl, (h.keep kS (fun x hx' => by have h9 : x = w.heap.size := (by simpa using hx'); omega) hne).less (fun l hl => by simp [hl]), hk.trans' kS (fun x hx' hlt => by have h9 : x = w.heap.size := (by simpa using hx'); omega), fun x hx' => (hx x hx').imp id (fun hh => by omega), ho.keep kS (fun g hh => ?_), fun g hh => ⟨by have := hg g hh; omega, (h.ap g (by simp [hh])).1⟩⟩
  have := hg g hh
  simp only [List.mem_singleton]
  omega
set_option maxRecDepth 100000 in
set_option maxHeartbeats 8000000 in
theorem reply_come {w0 w : World} {p n : Nat} {X L : List Nat} {P : ReS} (lim : Nat) (h : Rp w0 w p X P n L) (hm : ML w0) (hn : n ≤ 60000) (hlim : lim ≤ 1000) :
    Calls Tryd.prog 12 #[.pointer (some ⟨p, 0, Option.none⟩), .int .i64 (lim : Nat)] w (CmOut w0 w p X n L (comeR lim P ans0 [])) := by
  have HM := Lib.hid hm
  have hsz0 := h.kp.size
  have kA := (Keep.refl [] w).alloc (.cells ansZ.toArray 33)
  have bA := Blk.newA w ansZ.toArray 33
  have hszA : (w.alloc (.cells ansZ.toArray 33)).heap.size = w.heap.size + 1 := by simp
  generalize hwA : w.alloc (.cells #[.int .i64 0, .slice Option.none 0 0, .int .i64 0, .bool false, .bool false] 33) = wA
  have hwA' : w.alloc (.cells ansZ.toArray 33) = wA := hwA
  rw [hwA'] at kA bA hszA
  have kB := (Keep.refl [] wA).alloc (.cells ansZ.toArray 33)
  have bB := Blk.newA wA ansZ.toArray 33
  have hszB : (wA.alloc (.cells ansZ.toArray 33)).heap.size = w.heap.size + 2 := by simp [hszA]
  generalize hwB : wA.alloc (.cells #[.int .i64 0, .slice Option.none 0 0, .int .i64 0, .bool false, .bool false] 33) = wB
  have hwB' : wA.alloc (.cells ansZ.toArray 33) = wB := hwB
  rw [hwB', hszA] at bB
  rw [hwB'] at kB hszB
  have hR2 : Rp w0 wB p X P n (w.heap.size :: (w.heap.size + 1) :: ((Value.slice Option.none 0 0).ownBlock.toList ++ L)) := by
    have h1 := h.add kA w.heap.size (Nat.le_refl _) (by omega)
    have h2 := h1.add kB (w.heap.size + 1) (by omega) (by omega)
    exact h2.less (fun l hl => by simp [Value.ownBlock] at hl ⊢; rcases hl with h | h | h <;> simp [h])
  have bB : Blk wB (w.heap.size + 1) 33 ansZ := bB
  have HT0 := Lib.hid (bB.there' 0 5 (by simp [ansZ, ansC]))
  have kS0 : Keep [w.heap.size + 1] wB (wB.setCells (w.heap.size + 1) 0 ansZ) := Keep.setCells' (S := [w.heap.size + 1]) _ (by simp) _ _ _ (Keep.refl _ _)
  have hXs : ∀ x ∈ X, x ∉ [w.heap.size + 1] := fun x hx hh => by
    have h9 : x = w.heap.size + 1 := (by simpa using hh)
    exact (hR2.ap (w.heap.size + 1) (by simp)).1 (h9 ▸ hx)
  have HS := Lib.hid (show CmS w0 w p n lim X L P 0 [] (wB.setCells (w.heap.size + 1) 0 ansZ) from ⟨Option.none, 0, 0, X, P, ans0, hR2.keep kS0 (fun x hx => by have h9 : x = w.heap.size + 1 := (by simpa using hx); omega) hXs, ((kA.trans kB).mono (S' := X) (by simp)).trans' kS0 (fun x hx hlt => by have h9 : x = w.heap.size + 1 := (by simpa using hx); omega), fun x hx => .inl hx, kS0.blk (kB.blk (show Blk wA w.heap.size 33 ansZ from bA) (by simp)) (by simp), bB.over0 (by rfl), Own.nil _ _ _ _ _, fun g hg => by simp [Value.ownBlock] at hg, rfl⟩)
  have ZST := Lib.hid (ans_st 0 (v := .slice Option.none 0 0) 0 false false rfl)
  clear h hm kA bA kB bB hR2 hwA' hwB' kS0 hXs
  go_enter Tryd.func12, Tryd.ntmps12
  go_wp2_with (first
    | (with_reducible (show wpList _ _ _ ((⟨none, .store _ (.tmp 7) (.tmp 13), _, _, _, none⟩ : Oper) :: _) _ _)
       refine wpList_store_mid rfl 33 (.tmp 7) (.tmp 13) rfl (w.heap.size + 1) 0 ansZ.toArray (by rfl) (by first | rfl | kernel_rfl) HT0.out ZST.out.1 ZST.out.2 ?_
       try simp only [Act.put])
    | fail)
  clear hwA hwB
  go_loopg [8, 9] lim (fun g dv iv wr => ∃ (k : Nat) (d : List UInt8), dv = .string (S d) ∧ iv = .int .i64 (k : Nat) ∧ k ≤ lim ∧ g = lim - k ∧ d.length ≤ k * 60000 ∧ Hid (CmS w0 w p n lim X L P k d wr))
  case atStart => exact ⟨0, [], rfl, rfl, by omega, rfl, by simp, HS⟩
  case round =>
    obtain ⟨k, d, rfl, rfl, hk, hg, hdl, HC⟩ := hrel
    obtain ⟨sa, sl, sc, X1, Q, a, h, hkp, hnx, hbr, hbh, ho, hgo, hco⟩ := HC.out
    have wk := IntWalk.i64_in ((k : Int) + 1) (by omega)
    by_cases hlt : k < lim
    case neg =>
      have q1 : decide (k < lim) = false := decide_eq_false hlt
      have hke : lim - k = 0 := by omega
      rw [hke] at hco
      have HF := Lib.hid (CmS.fin (k := k) (lim := lim) (P := P) (-1) h hkp hnx ho hgo hsz0 rfl (r := comeR lim P ans0 []) hco.symm rfl rfl)
      have RNG := Lib.hid hbh.range'
      have HT := Lib.hid (hbr.there' 0 5 (by simp [ansZ, ansC]))
      have HLd := Lib.hid (ans_back (st := a.st) (v := .slice sa sl sc) (len := a.len) (ch := a.ch) (cl := a.cl) HT.out)
      have ST := Lib.hid (ans_st a.st (v := .slice sa sl sc) a.len a.ch a.cl rfl)
      clear h hkp hnx hbr hbh ho hgo hco hlt hke HC
      go_wp2_with (first
        | (with_reducible (show wpList _ _ _ ((⟨_, .load _ (.tmp 7), _, _, _, none⟩ : Oper) :: _) _ _)
           refine wpList_load_mid rfl 33 (.tmp 7) rfl (w.heap.size + 1) 0 (by rfl) (ansC a.st (.slice sa sl sc) a.len a.ch a.cl) _ RNG.out Tryd.underlying33 rfl ans_size ?_
           try simp only [Act.put, List.setIfInBounds_toArray, List.set_cons_succ, List.set_cons_zero])
        | (with_reducible (show wpList _ _ _ ((⟨none, .store _ (.tmp 4) (.tmp 37), _, _, _, none⟩ : Oper) :: _) _ _)
           refine wpList_store_mid rfl 33 (.tmp 4) (.tmp 37) rfl w.heap.size 0 (ansC a.st (.slice sa sl sc) a.len a.ch a.cl).toArray (by rfl) (by first | rfl | kernel_rfl) HT.out ST.out.1 ST.out.2 ?_
           try simp only [Act.put])
        | fail)
      refine bodyPost_ret (v := .tuple #[.agg (ansC a.st (.slice sa sl sc) a.len a.ch a.cl).toArray, .string (S d), .int .i64 (-1)]) (by have hl := HLd.out; simp [Act.put, results, Tryd.results12, asAddr, Result.andThen, hl]) rfl HF.out
    have q1 : decide (k < lim) = true := decide_eq_true hlt
    have hk60 : (k + 1) * 60000 = k * 60000 + 60000 := Nat.succ_mul _ _
    have hdl1 : d.length ≤ (k + 1) * 60000 := by rw [hk60]; exact Nat.le_trans hdl (Nat.le_add_right _ _)
    obtain ⟨⟨Q', kk, a', s'⟩, hr⟩ : ∃ r, nextR Q = r := ⟨_, rfl⟩
    have hs' : s'.length ≤ 60000 := by have := nextR_s h.ok; rw [hr] at this; dsimp only at this; omega
    have hstep := comeR_step (lim - (k + 1)) Q a d hr
    rw [show lim - (k + 1) + 1 = lim - k by omega, hco] at hstep
    dsimp only at hstep
    have HX := Lib.hid (rp_next h HM.out hn hr)
    unfold NpOut at HX
    dsimp only at HX
    have HA := Lib.hid (show (∀ l ∈ w.heap.size :: (w.heap.size + 1) :: ((Value.slice sa sl sc).ownBlock.toList ++ L), l ∉ X1 ∧ l < wr.heap.size) from h.ap)
    have HB := Lib.hid (And.intro hkp (And.intro hnx (And.intro hbr (And.intro hbh (And.intro ho hgo)))))
    have ss := S_size s'
    have sd := S_size d
    have happ := S_append d s'
    have hov : ¬ 9223372036854775807 < d.length + s'.length := by omega
    have HST := Lib.hid hstep
    clear h hkp hnx hbr hbh ho hgo hco hr hstep HC
    go_wp2_with fail
    refine HX.out.mono ?_
    rintro e v1 ⟨sb, sm, sn, X2, rfl, h1, k1, n1, o1, g1⟩
    obtain ⟨hkp, hnx, hbr, hbh, ho, hgo⟩ := HB.out
    have hwsz := hbh.lt
    have hbr1 := k1.blk hbr (HA.out _ (by simp)).1
    have hbh1 := k1.blk hbh (HA.out _ (by simp)).1
    have ho1 := ho.keep k1 (fun g hg => (HA.out g (by simp [hg])).1)
    have hkp1 : Keep X w v1 := hkp.trans' k1 (fun x hx hlt' => (hnx x hx).elim id (fun hh => by omega))
    have hnx1 : ∀ x ∈ X2, x ∈ X ∨ w.heap.size + 1 < x := fun x hx => by
      rcases n1 x hx with h2 | h2
      · exact hnx x h2
      · exact .inr (by omega)
    have kA := (Keep.refl [] v1).alloc (.cells (ansC a'.st (.slice sb sm sn) a'.len a'.ch a'.cl).toArray 33)
    have bA := Blk.newA v1 (ansC a'.st (.slice sb sm sn) a'.len a'.ch a'.cl).toArray 33
    generalize hwA : v1.alloc (.cells (ansC a'.st (.slice sb sm sn) a'.len a'.ch a'.cl).toArray 33) = u1 at kA bA
    have h2 := h1.keep0 kA
    have hbr2 := kA.blk hbr1 (by simp)
    have hbh2 := kA.blk hbh1 (by simp)
    have ho2 := ho1.keep0 kA
    have o2 := o1.keep0 kA
    have hkp2 := hkp1.trans (kA.mono (S' := X) (by simp))
    have HO1 := Lib.hid (ansC_one a'.st (v := .slice sb sm sn) a'.len a'.ch a'.cl rfl)
    have hg2 : ∀ g, (Value.slice sb sm sn).ownBlock = some g → w.heap.size + 1 < g ∧ g ∉ X2 := fun g hg => ⟨by have := (g1 g hg).1; omega, (g1 g hg).2⟩
    by_cases hk1 : kk = 1
    · subst hk1
      rw [if_pos rfl] at HST
      have RNG := Lib.hid (show Blk u1 v1.heap.size 33 (ansC a'.st (.slice sb sm sn) a'.len a'.ch a'.cl) from bA).range'
      have HT := Lib.hid (hbh2.there' 0 5 (by simp [ansC]))
      have ST := Lib.hid (ans_st a'.st (v := .slice sb sm sn) a'.len a'.ch a'.cl rfl)
      have kS : Keep [w.heap.size + 1] u1 (u1.setCells (w.heap.size + 1) 0 (ansC a'.st (.slice sb sm sn) a'.len a'.ch a'.cl)) := Keep.setCells' (S := [w.heap.size + 1]) _ (by simp) _ _ _ (Keep.refl _ _)
      have hnk : ∀ x ∈ X2, x ∉ [w.heap.size + 1] := fun x hx hh => by
        have h9 : x = w.heap.size + 1 := (by simpa using hh)
        exact (h2.ap (w.heap.size + 1) (by simp)).1 (h9 ▸ hx)
      have HF := Lib.hid (show CmS w0 w p n lim X L P (k + 1) d (u1.setCells (w.heap.size + 1) 0 (ansC a'.st (.slice sb sm sn) a'.len a'.ch a'.cl)) from by
        have h3 := h2.keep kS (fun x hx => by have h9 : x = w.heap.size + 1 := (by simpa using hx); omega) hnk
        refine ⟨sb, sm, sn, X2, Q', a', ⟨h3.re, h3.ok, h3.kp, fun l hl => ?_⟩, hkp2.trans' kS (fun x hx hlt' => by have h9 : x = w.heap.size + 1 := (by simpa using hx); omega), hnx1, kS.blk hbr2 (by simp), hbh2.over0 (by simp [ansC]), o2.keep kS (fun g hg => by have := (hg2 g hg).1; simp only [List.mem_singleton]; omega), fun g hg => (hg2 g hg).1, HST.out.symm⟩
        rcases List.mem_cons.1 hl with rfl | hl
        · exact h3.ap _ (by simp)
        rcases List.mem_cons.1 hl with rfl | hl
        · exact h3.ap _ (by simp)
        rcases List.mem_append.1 hl with hl | hl
        · have hl' := by simpa using hl
          exact ⟨(hg2 l hl').2, Nat.lt_of_lt_of_le (o2.lt l hl').2 kS.size⟩
        · exact h3.ap _ (by simp [hl]))
      have HDL := Lib.hid hdl1
      clear h1 k1 n1 o1 g1 hkp hnx hbr hbh ho hgo hbr1 hbh1 ho1 hkp1 hnx1 kA bA h2 hbr2 hbh2 ho2 o2 hkp2 hg2 kS hnk HB HA HX hdl1 hk60
      go_wp2_with (first
        | (with_reducible (show wpList _ _ _ ((⟨none, .store _ (.tmp 11) (.tmp 23), _, _, _, none⟩ : Oper) :: _) _ _)
           refine wpList_store_fresh rfl 33 (.tmp 11) (.tmp 23) rfl _ (ansC a'.st (.slice sb sm sn) a'.len a'.ch a'.cl) (by rfl) (by rfl) ans_size (by rfl) HO1.out ?_
           rw [hwA]
           try simp only [Act.put, List.setIfInBounds_toArray, List.set_cons_succ, List.set_cons_zero])
        | (with_reducible (show wpList _ _ _ ((⟨_, .load _ (.tmp 11), _, _, _, none⟩ : Oper) :: _) _ _)
           refine wpList_load_mid rfl 33 (.tmp 11) rfl v1.heap.size 0 (by rfl) (ansC a'.st (.slice sb sm sn) a'.len a'.ch a'.cl) _ RNG.out Tryd.underlying33 rfl ans_size ?_
           try simp only [Act.put, List.setIfInBounds_toArray, List.set_cons_succ, List.set_cons_zero])
        | (with_reducible (show wpList _ _ _ ((⟨none, .store _ (.tmp 7) (.tmp 31), _, _, _, none⟩ : Oper) :: _) _ _)
           refine wpList_store_mid rfl 33 (.tmp 7) (.tmp 31) rfl (w.heap.size + 1) 0 (ansC a'.st (.slice sb sm sn) a'.len a'.ch a'.cl).toArray (by rfl) (by first | rfl | kernel_rfl) HT.out ST.out.1 ST.out.2 ?_
           try simp only [Act.put])
        | fail)
      go_roundg (lim - (k + 1))
      case measure => omega
      case rel => exact ⟨k + 1, d, rfl, by go_num, hlt, rfl, HDL.out, HF⟩
    have e1 := int_ne hk1
    rw [if_neg hk1] at HST
    by_cases hk2 : kk = 2
    · subst hk2
      rw [if_pos rfl] at HST
      have HF := Lib.hid (show CmS w0 w p n lim X L P (k + 1) (d ++ s') u1 from ⟨sa, sl, sc, X2, Q', a, h2, hkp2, hnx1, hbr2, hbh2, ho2, hgo, HST.out.symm⟩)
      have hdl2 : (d ++ s').length ≤ (k + 1) * 60000 := by rw [hk60, List.length_append]; exact Nat.add_le_add hdl hs'
      have HDL := Lib.hid hdl2
      clear h1 k1 n1 o1 g1 hkp hnx hbr hbh ho hgo hbr1 hbh1 ho1 hkp1 hnx1 kA bA h2 hbr2 hbh2 ho2 o2 hkp2 hg2 HB HA HX hdl1 hk60 hdl2
      go_wp2_with (first
        | (with_reducible (show wpList _ _ _ ((⟨none, .store _ (.tmp 11) (.tmp 23), _, _, _, none⟩ : Oper) :: _) _ _)
           refine wpList_store_fresh rfl 33 (.tmp 11) (.tmp 23) rfl _ (ansC a'.st (.slice sb sm sn) a'.len a'.ch a'.cl) (by rfl) (by rfl) ans_size (by rfl) HO1.out ?_
           rw [hwA]
           try simp only [Act.put, List.setIfInBounds_toArray, List.set_cons_succ, List.set_cons_zero])
        | fail)
      go_roundg (lim - (k + 1))
      case measure => omega
      case rel => exact ⟨k + 1, d ++ s', rfl, by go_num, hlt, rfl, HDL.out, HF⟩
    · have e2 := int_ne hk2
      rw [if_neg hk2] at HST
      have HF := Lib.hid (CmS.fin (k := k) (lim := lim) (P := P) kk h2 hkp2 hnx1 ho2 hgo hsz0 rfl (r := comeR lim P ans0 []) HST.out rfl rfl)
      have RNG := Lib.hid hbh2.range'
      have HT := Lib.hid (hbr2.there' 0 5 (by simp [ansZ, ansC]))
      have HLd := Lib.hid (ans_back (st := a.st) (v := .slice sa sl sc) (len := a.len) (ch := a.ch) (cl := a.cl) HT.out)
      have ST := Lib.hid (ans_st a.st (v := .slice sa sl sc) a.len a.ch a.cl rfl)
      clear h1 k1 n1 o1 g1 hkp hnx hbr hbh ho hgo hbr1 hbh1 ho1 hkp1 hnx1 kA bA h2 hbr2 hbh2 ho2 o2 hkp2 hg2 HB HA HX hk1 hk2
      obtain ⟨e1, e1'⟩ := e1
      obtain ⟨e2, e2'⟩ := e2
      go_wp2_with (first
        | (with_reducible (show wpList _ _ _ ((⟨none, .store _ (.tmp 11) (.tmp 23), _, _, _, none⟩ : Oper) :: _) _ _)
           refine wpList_store_fresh rfl 33 (.tmp 11) (.tmp 23) rfl _ (ansC a'.st (.slice sb sm sn) a'.len a'.ch a'.cl) (by rfl) (by rfl) ans_size (by rfl) HO1.out ?_
           rw [hwA]
           try simp only [Act.put, List.setIfInBounds_toArray, List.set_cons_succ, List.set_cons_zero])
        | (with_reducible (show wpList _ _ _ ((⟨_, .load _ (.tmp 7), _, _, _, none⟩ : Oper) :: _) _ _)
           refine wpList_load_mid rfl 33 (.tmp 7) rfl (w.heap.size + 1) 0 (by rfl) (ansC a.st (.slice sa sl sc) a.len a.ch a.cl) _ RNG.out Tryd.underlying33 rfl ans_size ?_
           try simp only [Act.put, List.setIfInBounds_toArray, List.set_cons_succ, List.set_cons_zero])
        | (with_reducible (show wpList _ _ _ ((⟨none, .store _ (.tmp 4) (.tmp 26), _, _, _, none⟩ : Oper) :: _) _ _)
           refine wpList_store_mid rfl 33 (.tmp 4) (.tmp 26) rfl w.heap.size 0 (ansC a.st (.slice sa sl sc) a.len a.ch a.cl).toArray (by rfl) (by first | rfl | kernel_rfl) HT.out ST.out.1 ST.out.2 ?_
           try simp only [Act.put])
        | fail)
      try rw [Exit.noGoto_ret]
      refine bodyPost_ret (v := .tuple #[.agg (ansC a.st (.slice sa sl sc) a.len a.ch a.cl).toArray, .string (S d), .int .i64 kk]) (by have hl := HLd.out; simp [Act.put, results, Tryd.results12, asAddr, Result.andThen, hl]) rfl HF.out
/-- the same answer, wherever its fields lie -/
theorem law14_same {B : Nat} {w : World} (a : Ans) {sa sb : Option Addr} {sl sm sc sn : Nat} (hx : Own Fld.cells 2 B 69 w (.slice sa sl sc) a.F) (hy : Own Fld.cells 2 B 69 w (.slice sb sm sn) a.F) :
    Calls Tryd.prog 13 #[.agg (ansC a.st (.slice sa sl sc) a.len a.ch a.cl).toArray, .agg (ansC a.st (.slice sb sm sn) a.len a.ch a.cl).toArray] w fun e w' => e = .returned (.bool true) ∧ Keep [] w w' := by
  have kA := ((Keep.refl [] w).alloc (.cells (ansC a.st (.slice sa sl sc) a.len a.ch a.cl).toArray 33)).alloc (.cells (ansC a.st (.slice sb sm sn) a.len a.ch a.cl).toArray 33)
  have b1 := (Blk.newA w (ansC a.st (.slice sa sl sc) a.len a.ch a.cl).toArray 33).alloc (.cells (ansC a.st (.slice sb sm sn) a.len a.ch a.cl).toArray 33)
  have b2 := Blk.newA (w.alloc (.cells (ansC a.st (.slice sa sl sc) a.len a.ch a.cl).toArray 33)) (ansC a.st (.slice sb sm sn) a.len a.ch a.cl).toArray 33
  have hsz : (w.alloc (.cells (ansC a.st (.slice sa sl sc) a.len a.ch a.cl).toArray 33)).heap.size = w.heap.size + 1 := by simp
  rw [hsz] at b2
  clear hsz
  have o1 := (hx.keep0 kA).sl Fld.cells_length
  have o2 := (hy.keep0 kA).sl Fld.cells_length
  clear hx hy
  obtain ⟨st, F, len, ch, cl⟩ := a
  dsimp only at *
  generalize hwA : (w.alloc (.cells #[.int .i64 st, .slice sa sl sc, .int .i64 len, .bool ch, .bool cl] 33)).alloc (.cells #[.int .i64 st, .slice sb sm sn, .int .i64 len, .bool ch, .bool cl] 33) = wA
  have hwA' : (w.alloc (.cells (ansC st (.slice sa sl sc) len ch cl).toArray 33)).alloc (.cells (ansC st (.slice sb sm sn) len ch cl).toArray 33) = wA := hwA
  rw [hwA'] at kA b1 b2 o1 o2
  have b1 : Blk wA w.heap.size 33 (ansC st (.slice sa sl sc) len ch cl) := b1
  have b2 : Blk wA (w.heap.size + 1) 33 (ansC st (.slice sb sm sn) len ch cl) := b2
  have c0 := b1.get (k := 0) (v := .int .i64 st) rfl
  have c1 := b1.get (k := 1) (v := .slice sa sl sc) rfl
  have c2 := b1.get (k := 2) (v := .int .i64 len) rfl
  have c3 := b1.get (k := 3) (v := .bool ch) rfl
  have c4 := b1.get (k := 4) (v := .bool cl) rfl
  have d0 := b2.get (k := 0) (v := .int .i64 st) rfl
  have d1 := b2.get (k := 1) (v := .slice sb sm sn) rfl
  have d2 := b2.get (k := 2) (v := .int .i64 len) rfl
  have d3 := b2.get (k := 3) (v := .bool ch) rfl
  have d4 := b2.get (k := 4) (v := .bool cl) rfl
  have HS := Lib.hid (ref_Same _ _ _ _ _ o1 o2)
  have dT : decide (F = F) = true := by simp
  rw [dT] at HS
  have KA := Lib.hid kA
  clear kA b1 b2 o1 o2 hwA' dT
  dsimp only [ansC]
  go_enter Tryd.func13, Tryd.ntmps13
  go_wp2_with fail
  refine HS.out.mono ?_
  rintro e w1 ⟨rfl, k1⟩
  have K1 := Lib.hid (KA.out.trans k1)
  clear k1
  go_wp2_with fail
  go_ret
  exact ⟨rfl, K1.out⟩
end Go.Proofs.YtdmffbefppjllaaDoor

/- Layer 14, plain laws: a round of bytes and of what is told. No program. No conditions but those that each theorem states. -/
namespace Go.Proofs.YtdmffbefppjllaaDoor
open Go.RowKit

/-- what is told of the bytes l, at once -/
def Told (N : ReS) (l : List UInt8) (a : Option Ans) (d : List UInt8) (k : Int) : Prop := (reAll (N.add l)).ans = a ∧ (reAll (N.add l)).dat = d ∧ (reFinish (reAll (N.add l))).2 = k
theorem new_shut {N : ReS} (hN : ∃ hd most, N = reNew hd most ∧ in64 most) (l : List UInt8) : (reAll (N.add l)).shut = false := by
  obtain ⟨hd, most, rfl, hm⟩ := hN
  exact reAll_shut (n := 0 + 2 * l.length) (add_okR (reNew_ok hd hm) l)
theorem cut_round {N P : ReS} {l : List UInt8} {a : Option Ans} {f : List UInt8} (hN : ∃ hd most, N = reNew hd most ∧ in64 most) (hS : Seen N l P a f) (t : List UInt8) (hl : l.length + t.length ≤ 16384) :
    ∃ Pz w d kz a', reAdd P t = (P.add t, 0) ∧ comeR 9 (P.add t) ans0 [] = ⟨Pz, w, d, kz⟩ ∧ pickA (a.getD ans0) w = a'.getD ans0 ∧ (a = none → w = a'.getD ans0) ∧ Told N (l ++ t) a' (f ++ d) kz ∧ (kz = 0 → Seen N (l ++ t) Pz a' (f ++ d)) ∧ (kz ≠ 0 → ∀ rest, Told N (l ++ t ++ rest) a' (f ++ d) kz) := by
  obtain ⟨s1, s2, s3, s4, s5, s6⟩ := seen_step hN hS t
  have hPok := add_okR hS.ok t
  have hc := come_all hPok (show (P.add t).ans = none from hS.bare.1) (show (P.add t).dat = [] from hS.bare.2) 6 ans0 []
  have hst5 := s5.st
  obtain ⟨p1, p2, p3⟩ := told_parts s1
  have hB := fin_0 s4 hst5
  have hB' := fin_0 (P := (reAll (P.add t)).with' none []) s4 hst5
  have hfw := fin_with (reAll (P.add t)) none []
  have hk : (reFinish (reAll (N.add (l ++ t)))).2 = (reFinish (reAll (P.add t))).2 := by
    rw [fin_eq (Q := (reAll (P.add t)).with' (a.or (reAll (P.add t)).ans) (f ++ (reAll (P.add t)).dat)) p1 ((new_shut hN _).trans s4.symm), fin_with]
  have hT : Told N (l ++ t) (a.or (reAll (P.add t)).ans) (f ++ (reAll (P.add t)).dat) (reFinish (reAll (P.add t))).2 := ⟨p3, p2, hk⟩
  refine ⟨_, _, _, _, a.or (reAll (P.add t)).ans, ?_, hc, (pick_or s2 s3).symm, fun ha => by rw [ha]; rfl, by rw [List.nil_append]; exact hT, fun h0 => ?_, fun h0 rest => ?_⟩
  · have hw := hS.ok.wt
    have hlen : 2 * P.inp.length + P.dat.length ≤ 2 * l.length := by unfold ReS.wt at hw; omega
    have hst := hS.st
    unfold reAdd
    rw [if_neg (by rw [hS.bare.2] at hlen ⊢; simp at hlen ⊢; omega), if_neg (by simp [hS.sh]; omega)]
    rfl
  · rw [List.nil_append, hB'.2 (by rw [hfw]; exact h0)]
    exact s6 (hB.1.1 h0)
  · rw [List.nil_append]
    have h3 : ¬ (reAll (N.add (l ++ t))).st ≤ 3 := by
      rw [p1]
      exact fun hh => h0 (hB.1.2 hh)
    obtain ⟨e1, e2, e3⟩ := seen_end hN h3 rest
    exact ⟨e3.trans hT.1, e2.trans hT.2.1, (fin_eq e1 ((new_shut hN _).trans (new_shut hN _).symm)).trans hT.2.2⟩
theorem told_seen {N P : ReS} {l : List UInt8} {a : Option Ans} {d : List UInt8} (h : Seen N l P a d) : Told N l a d 0 := by
  have h0 := (fin_0 h.sh (by have := h.st; omega)).1.2 h.st
  refine ⟨by rw [h.all]; rfl, by rw [h.all]; rfl, by rw [h.all, fin_with]; exact h0⟩
end Go.Proofs.YtdmffbefppjllaaDoor

/- Layer 14: the statement ReplyCuts. No conditions. -/
namespace Go.Proofs.YtdmffbefppjllaaDoor
open Go.RowKit Go.Shelf

theorem wpList_load_mG {P : Program} {ops : Array Oper} {rest : List Oper} {op : Oper} {a : Act} {w : World} {Q : Exit → Act → World → Prop} (hw : Region.wanted op (yielded ops a.tmps) = true) (ty : TypeId) (x : Operand) (ho : op.op = .load ty x)
    (b o : Nat) (hx : a.eval x = .pointer (some ⟨b, o, Option.none⟩)) (cs : List Value) (d : TypeDesc) (hc : w.rangeAt b o cs) (hu : P.underlying ty = some d) (hd : d.isRow = true) (hi : (P.info? ty).map (·.size) = some cs.length)
    (h : wpList P ops Q rest (a.put op.dst (.agg cs.toArray)) w) : wpList P ops Q (op :: rest) a w :=
  wpList_step fun K hK => by rw [if_pos hw]; exact wp_load_mid ty x ho b o hx cs d hc hu hd hi (hK _ _ h)
/-- an answer in a block of its own, made since the heap was m blocks -/
structure La (w0 w : World) (m b : Nat) (a : Ans) (G : List Nat) : Prop where
  at' : ∃ sa sl sc, Blk w b 33 (ansC a.st (.slice sa sl sc) a.len a.ch a.cl) ∧ Own Fld.cells 2 w0.heap.size 69 w (.slice sa sl sc) a.F ∧ ∀ g, (Value.slice sa sl sc).ownBlock = some g → g ∈ G
  lo : m ≤ b ∧ b < w.heap.size
  gs : ∀ g ∈ G, m ≤ g ∧ g < w.heap.size
theorem La.keep {w0 w w' : World} {m b : Nat} {a : Ans} {G S : List Nat} (h : La w0 w m b a G) (k : Keep S w w') (hb : b ∉ S) (hG : ∀ g ∈ G, g ∉ S) : La w0 w' m b a G := by
  obtain ⟨⟨sa, sl, sc, h1, h2, h3⟩, h4, h5⟩ := h
  exact ⟨⟨sa, sl, sc, k.blk h1 hb, h2.keep k (fun g hg => hG g (h3 g hg)), h3⟩, ⟨h4.1, Nat.lt_of_lt_of_le h4.2 k.size⟩, fun g hg => ⟨(h5 g hg).1, Nat.lt_of_lt_of_le (h5 g hg).2 k.size⟩⟩
theorem La.keep0 {w0 w w' : World} {m b : Nat} {a : Ans} {G : List Nat} (h : La w0 w m b a G) (k : Keep [] w w') : La w0 w' m b a G := h.keep k (by simp) (by simp)
theorem La.by' {w0 w w' : World} {m b p n : Nat} {a : Ans} {G X L : List Nat} {P : ReS} (h : La w0 w m b a G) (r : Rp w0 w p X P n L) (k : Keep X w w') (hb : b ∈ L) (hG : ∀ g ∈ G, g ∈ L) : La w0 w' m b a G := h.keep k (r.ap b hb).1 (fun g hg => (r.ap g (hG g hg)).1)
theorem Rp.by' {w0 w w' : World} {p n q k' : Nat} {X L Y L' : List Nat} {P Q : ReS} (h : Rp w0 w q Y Q k' L') (r : Rp w0 w p X P n L) (k : Keep X w w') (hY : ∀ y ∈ Y, y ∈ L) : Rp w0 w' q Y Q k' L' :=
  h.keep k (fun x hx => (r.re.lo x hx).1) (fun y hy hh => (r.ap y (hY y hy)).1 hh)
theorem Rp.more {w0 w : World} {p n m b : Nat} {X L G : List Nat} {P : ReS} {a : Ans} (h : Rp w0 w p X P n L) (x : La w0 w m b a G) (hX : ∀ x ∈ X, x < m) : Rp w0 w p X P n (b :: (G ++ L)) :=
  ⟨h.re, h.ok, h.kp, fun l hl => by
    rcases List.mem_cons.1 hl with rfl | hl
    · exact ⟨fun hh => by have := hX _ hh; have := x.lo.1; omega, x.lo.2⟩
    · rcases List.mem_append.1 hl with hl | hl
      · exact ⟨fun hh => by have := hX _ hh; have := (x.gs l hl).1; omega, (x.gs l hl).2⟩
      · exact h.ap l hl⟩
theorem Rp.more2 {w0 w : World} {p n : Nat} {X L G : List Nat} {P : ReS} (h : Rp w0 w p X P n L) (hG : ∀ g ∈ G, g ∉ X ∧ g < w.heap.size) : Rp w0 w p X P n (G ++ L) :=
  ⟨h.re, h.ok, h.kp, fun l hl => by
    rcases List.mem_append.1 hl with hl | hl
    · exact hG l hl
    · exact h.ap l hl⟩
/-- the answer that a call gave is laid into a block just made -/
theorem La.new {w0 w : World} {m : Nat} {a : Ans} {sa : Option Addr} {sl sc : Nat} (ho : Own Fld.cells 2 w0.heap.size 69 w (.slice sa sl sc) a.F) (hm : m ≤ w.heap.size) (hg : ∀ g, (Value.slice sa sl sc).ownBlock = some g → m ≤ g) :
    La w0 (w.alloc (.cells (ansC a.st (.slice sa sl sc) a.len a.ch a.cl).toArray 33)) m w.heap.size a (Value.slice sa sl sc).ownBlock.toList := by
  have kA := (Keep.refl [] w).alloc (.cells (ansC a.st (.slice sa sl sc) a.len a.ch a.cl).toArray 33)
  refine ⟨⟨sa, sl, sc, Blk.newA w (ansC a.st (.slice sa sl sc) a.len a.ch a.cl).toArray 33, ho.keep0 kA, fun g hg => by rw [hg]; simp⟩, ⟨hm, by simp⟩, fun g hg' => ?_⟩
  have hg2 : (Value.slice sa sl sc).ownBlock = some g := by simpa using hg'
  exact ⟨hg g hg2, Nat.lt_of_lt_of_le (ho.lt g hg2).2 kA.size⟩
/-- another answer is stored over it -/
theorem La.over {w0 w : World} {m b t : Nat} {a c : Ans} {G H : List Nat} {sa : Option Addr} {sl sc : Nat} (h : La w0 w m b a G) (x : La w0 w m t c H) (ho : Own Fld.cells 2 w0.heap.size 69 w (.slice sa sl sc) c.F) (hx : ∀ g, (Value.slice sa sl sc).ownBlock = some g → g ∈ H) (hb : b ∉ H) :
    La w0 (w.setCells b 0 (ansC c.st (.slice sa sl sc) c.len c.ch c.cl)) m b c H := by
  obtain ⟨⟨_, _, _, h1, _, _⟩, h4, _⟩ := h
  have kS : Keep [b] w (w.setCells b 0 (ansC c.st (.slice sa sl sc) c.len c.ch c.cl)) := Keep.setCells' (S := [b]) _ (by simp) _ _ _ (Keep.refl _ _)
  refine ⟨⟨sa, sl, sc, h1.over0 (by simp [ansC]), ho.keep kS (fun g hg => by simp only [List.mem_singleton]; rintro rfl; exact hb (hx _ hg)), hx⟩, ⟨h4.1, Nat.lt_of_lt_of_le h4.2 kS.size⟩, fun g hg => ⟨(x.gs g hg).1, Nat.lt_of_lt_of_le (x.gs g hg).2 kS.size⟩⟩
theorem rp_addX {w0 w : World} {p n : Nat} {X L : List Nat} {P P' : ReS} {r : Int} (s : List UInt8) (h : Rp w0 w p X P n L) (hn : n ≤ 60000) (hs : s.length ≤ 1048576) (he : reAdd P s = (P', r)) :
    Calls Tryd.prog 11 #[.pointer (some ⟨p, 0, Option.none⟩), .string (S s)] w fun e w' => e = .returned (.int .i64 r) ∧ Rp w0 w' p X P' (n + 2 * s.length) L ∧ Keep X w w' := by
  refine (rp_add s h hn hs).mono ?_
  rintro e w' ⟨rfl, h1, h2⟩
  rw [he] at h1 ⊢
  exact ⟨rfl, h1, h.re.keepX h2⟩
theorem reply_comeX {w0 w : World} {p n : Nat} {X L : List Nat} {P : ReS} (h : Rp w0 w p X P n L) (hm : ML w0) (hn : n ≤ 60000) {r : CmR} (hr : comeR 9 P ans0 [] = r) :
    Calls Tryd.prog 12 #[.pointer (some ⟨p, 0, Option.none⟩), .int .i64 9] w (CmOut w0 w p X n L r) := by
  subst hr
  exact reply_come 9 h hm hn (by omega)
theorem told_len {N : ReS} (hN : ∃ hd most, N = reNew hd most ∧ in64 most) {l : List UInt8} {a : Option Ans} {d : List UInt8} {k : Int} (h : Told N l a d k) : d.length ≤ 2 * l.length := by
  obtain ⟨hd, most, rfl, hm⟩ := hN
  have hw := (reAll_ok (add_okR (reNew_ok hd hm) l)).wt
  rw [← h.2.1]
  unfold ReS.wt at hw
  omega
theorem told_det {N : ReS} {l : List UInt8} {a b : Option Ans} {d f : List UInt8} {k i : Int} (h : Told N l a d k) (h' : Told N l b f i) : a = b ∧ d = f ∧ k = i := ⟨h.1.symm.trans h'.1, h.2.1.symm.trans h'.2.1, h.2.2.symm.trans h'.2.2⟩
theorem kx2 {w w' : World} {b : Nat} {T : TypeId} {xs : List Value} (h : Blk w b T xs) (k : Keep [] w w') : Blk w' b T xs := k.blk h (by simp)
/-- where the second reply has been heard -/
def CutB (w0 : World) (c m xb yb : Nat) (N : ReS) (A : Ans) (wx : World) : Prop :=
  ∃ Gx Gy, La w0 wx m xb A Gx ∧ La w0 wx m yb A Gy ∧ Rp w0 wx c [c] N 0 []
/-- where the bytes come one by one -/
def CutC (w0 : World) (s : List UInt8) (N : ReS) (m c xb yb zb : Nat) (aA : Option Ans) (dA : List UInt8) (kA : Int) (k : Nat) (f : List UInt8) (i : Int) (wr : World) : Prop :=
  ∃ X Gx Gy Gz P z, Rp w0 wr c X P (2 * k) (xb :: yb :: zb :: (Gx ++ Gy ++ Gz)) ∧ La w0 wr m xb (aA.getD ans0) Gx ∧ La w0 wr m yb (aA.getD ans0) Gy ∧ La w0 wr m zb z Gz ∧ (xb ≠ zb ∧ yb ≠ zb ∧ ∀ g, g ∈ Gx ∨ g ∈ Gy → g ≠ zb) ∧
    ((i = 0 ∧ ∃ a, Seen N (s.take k) P a f ∧ z = a.getD ans0) ∨ (i ≠ 0 ∧ z = aA.getD ans0 ∧ f = dA ∧ i = kA))
set_option maxRecDepth 100000 in
set_option maxHeartbeats 16000000 in
theorem replyCuts_walk (s : List UInt8) (at' : Int) (hd : Bool) (most : Int) (w : World) (hm : ML w) (hs : s.length ≤ maxLen) (_ : in64 at') (him : in64 most) :
    Calls Tryd.prog 4 #[.string (S s), .int .i64 at', .bool hd, .int .i64 most] w fun e w' => e = .returned (.bool true) ∧ Keep [] w w' := by
  have hs' : s.length ≤ 9223372036854775807 := hs
  have s0 := S_size s
  have HAw := Lib.hid (reply_awake w hm)
  have HM := Lib.hid hm
  by_cases hl : 2048 < s.length
  · have q : decide ((s.length : Int) > 2048) = true := by simp; omega
    clear hl hm
    go_enter Tryd.func4, Tryd.ntmps4
    go_wp2_with fail
    refine HAw.out.mono ?_
    rintro e w1 ⟨rfl, k1⟩
    have K1 := Lib.hid k1
    clear k1
    go_wp2_with fail
    go_ret
    exact ⟨rfl, K1.out⟩
  have q : decide ((s.length : Int) > 2048) = false := by simp; omega
  have hl2 : s.length ≤ 2048 := by omega
  obtain ⟨p, hp, ep⟩ := u64_mod at' (s.length + 1) (by omega)
  replace ep : (IntKind.u64.wrap at').tmod ((s.length : Int) + 1) = (p : Int) := by rw [← ep]; congr 1
  have hx1 : (S s).extract 0 p = S (s.take p) := by rw [S_extract, List.drop_zero]
  have hx2 : (S s).extract p s.length = S (s.drop p) := by rw [S_extract, List.take_length]
  have hpi : ((p : Nat) : Int) ≤ (s.length : Int) := by omega
  have htl : (s.take p).length ≤ 2048 := by rw [List.length_take]; omega
  have hdl : (s.drop p).length ≤ 2048 := by rw [List.length_drop]; omega
  obtain ⟨N, hNe⟩ : ∃ N, N = reNew hd most := ⟨_, rfl⟩
  have hN : ∃ hd most, N = reNew hd most ∧ in64 most := ⟨hd, most, hNe, him⟩
  have HN := Lib.hid (fun w' (k : Keep [] w w') => rp_new (w0 := w) (w := w') hd him k [] (by simp))
  rw [← hNe] at HN
  have hS0 := seen0 hN
  -- the whole at once
  obtain ⟨Pz, wA, dA, kA, aA, ha1, ha2, _, ha4, hTA, _, _⟩ := cut_round hN hS0 s (by simp; omega)
  have hwA := ha4 rfl
  rw [List.nil_append, List.nil_append] at hTA
  -- the first part
  obtain ⟨P1, w1a, d1, k1, a1, hb1, hb2, _, hb4, hT1, hS1, hR1⟩ := cut_round hN hS0 (s.take p) (by simp; omega)
  have hw1 := hb4 rfl
  rw [List.nil_append, List.nil_append] at hT1 hS1 hR1
  have HPL := Lib.hid (And.intro hN (And.intro hS0 (And.intro hTA (And.intro hT1 (And.intro hS1 hR1)))))
  have HE := Lib.hid (And.intro ha1 (And.intro ha2 (And.intro hb1 hb2)))
  have HW1 := Lib.hid hw1
  subst hwA
  clear hl hm hNe hN hS0 ha1 ha2 ha4 hTA hb1 hb2 hb4 hT1 hS1 hR1 hw1 him
  go_enter Tryd.func4, Tryd.ntmps4
  go_wp2_with fail
  refine HAw.out.mono ?_
  rintro e w1 ⟨rfl, k1'⟩
  have K1 := Lib.hid k1'
  clear k1'
  go_wp2_with fail
  refine (HN.out _ K1.out).mono ?_
  rintro e w2 ⟨a, rfl, ha, hal, hia, k2⟩
  have IA := Lib.hid hia
  have K2 := Lib.hid (K1.out.trans k2)
  clear hia k2
  go_wp2_with fail
  refine (HN.out _ K2.out).mono ?_
  rintro e w3 ⟨b, rfl, hb, hbl, hib, k3⟩
  have IA3 := Lib.hid (IA.out.add k3 b hb hbl)
  have IB := Lib.hid hib
  have K3 := Lib.hid (K2.out.trans k3)
  clear hib k3 IA
  go_wp2_with fail
  refine (HN.out _ K3.out).mono ?_
  rintro e w4 ⟨c, rfl, hc, hcl, hic, k4⟩
  have IA4 := Lib.hid (IA3.out.add k4 c hc hcl)
  have IB4 := Lib.hid (IB.out.add k4 c hc hcl)
  have IC4 := Lib.hid hic
  have hAd := rp_addX s IA4.out (by omega) (by omega) HE.out.1
  have HAd := Lib.hid hAd
  obtain ⟨m, hm4⟩ : ∃ m, w4.heap.size = m := ⟨_, rfl⟩
  have hwm : w.heap.size ≤ m := by have := hic.kp.size; omega
  clear hic k4 IA3 IB HN HAw K1 K2 K3 hAd
  go_wp2_with fail
  refine HAd.out.mono ?_
  rintro e w5 ⟨rfl, h5, k5⟩
  have hsz5 := k5.size
  have IB5 := Lib.hid (IB4.out.by' IA4.out k5 (by simp))
  have IC5 := Lib.hid (IC4.out.by' IA4.out k5 (by simp))
  have IA5 := Lib.hid h5
  have HCo := Lib.hid (reply_comeX IA5.out HM.out (by omega) HE.out.2.1)
  unfold CmOut at HCo
  dsimp only at HCo
  clear h5 k5 IA4 IB4 IC4 HAd
  go_wp2_with fail
  refine HCo.out.mono ?_
  rintro e w6 ⟨sa, sl, sc, Xa, rfl, h6, k6, n6, o6, g6⟩
  have hsz6 := k6.size
  have kA := (Keep.refl [] w6).alloc (.cells (ansC (aA.getD ans0).st (.slice sa sl sc) (aA.getD ans0).len (aA.getD ans0).ch (aA.getD ans0).cl).toArray 33)
  have lx := La.new (a := aA.getD ans0) (m := m) o6 (by omega) (fun g hg => by have := (g6 g hg).1; omega)
  generalize hwA : w6.alloc (.cells (ansC (aA.getD ans0).st (.slice sa sl sc) (aA.getD ans0).len (aA.getD ans0).ch (aA.getD ans0).cl).toArray 33) = u6 at kA lx
  obtain ⟨xb, hxb⟩ : ∃ xb, w6.heap.size = xb := ⟨_, rfl⟩
  rw [hxb] at lx
  generalize (Value.slice sa sl sc).ownBlock.toList = Gx at lx
  have IB6 := (IB5.out.by' IA5.out k6 (by simp)).keep0 kA
  have IC6 := Lib.hid ((IC5.out.by' IA5.out k6 (by simp)).keep0 kA)
  have hbm : ∀ x ∈ [b], x < m := fun x hx => by have h9 : x = b := (by simpa using hx); omega
  have IB7 := Lib.hid (IB6.more lx hbm)
  have LX := Lib.hid lx
  have HOx := Lib.hid (ansC_one (aA.getD ans0).st (v := .slice sa sl sc) (aA.getD ans0).len (aA.getD ans0).ch (aA.getD ans0).cl rfl)
  have HAd := Lib.hid (rp_addX (s.take p) IB7.out (by omega) (by omega) HE.out.2.2.1)
  have HXB := Lib.hid hxb
  have hszu6 := kA.size
  clear h6 k6 n6 o6 g6 kA lx IB5 IC5 IA5 IB6 HCo hxb
  go_wp2_with (first
        | (with_reducible (show wpList _ _ _ ((⟨none, .store _ (.tmp 13) (.tmp 57), _, _, _, none⟩ : Oper) :: _) _ _)
           refine wpList_store_fresh rfl 33 (.tmp 13) (.tmp 57) rfl _ (ansC (aA.getD ans0).st (.slice sa sl sc) (aA.getD ans0).len (aA.getD ans0).ch (aA.getD ans0).cl) (by rfl) (by rfl) ans_size (by rfl) HOx.out ?_
           rw [hwA]
           try simp only [Act.put, List.setIfInBounds_toArray, List.set_cons_succ, List.set_cons_zero])
        | fail)
  rw [HXB.out]
  clear hwA HXB HOx
  refine HAd.out.mono ?_
  rintro e w7 ⟨rfl, h7, k7⟩
  have hsz7 := k7.size
  have LX7 := Lib.hid (LX.out.by' IB7.out k7 (by simp) (fun g hg => by simp [hg]))
  have IC7 := Lib.hid (IC6.out.by' IB7.out k7 (by simp))
  have IB8 := Lib.hid h7
  have HCo := Lib.hid (reply_comeX IB8.out HM.out (by omega) HE.out.2.2.2)
  unfold CmOut at HCo
  dsimp only at HCo
  clear h7 k7 IB7 IC6 LX HAd
  go_wp2_with fail
  refine HCo.out.mono ?_
  rintro e w8 ⟨sb, sm, sn, Xb, rfl, h8, k8, n8, o8, g8⟩
  have hsz8 := k8.size
  have hmle : m ≤ w7.heap.size := by omega
  have kB := (Keep.refl [] w8).alloc (.cells (ansC w1a.st (.slice sb sm sn) w1a.len w1a.ch w1a.cl).toArray 33)
  have ly := La.new (a := w1a) (m := m) o8 (by omega) (fun g hg => by have := (g8 g hg).1; omega)
  have hyl : w8.heap.size < (w8.alloc (.cells (ansC w1a.st (.slice sb sm sn) w1a.len w1a.ch w1a.cl).toArray 33)).heap.size := by simp
  generalize hwB : w8.alloc (.cells (ansC w1a.st (.slice sb sm sn) w1a.len w1a.ch w1a.cl).toArray 33) = u8 at kB ly hyl
  obtain ⟨yb, hyb⟩ : ∃ yb, w8.heap.size = yb := ⟨_, rfl⟩
  have IB9 := (h8.add kB w8.heap.size (Nat.le_refl _) hyl).more2 (G := (Value.slice sb sm sn).ownBlock.toList) (fun g hg => ⟨(g8 g (by simpa using hg)).2, (ly.gs g hg).2⟩)
  rw [hyb] at ly IB9
  have hxy : xb ≠ yb := by have := LX7.out.lo.2; omega
  have LX8 := Lib.hid ((LX7.out.by' IB8.out k8 (by simp) (fun g hg => by simp [hg])).keep0 kB)
  have hGy : ∀ g ∈ (Value.slice sb sm sn).ownBlock.toList, g ≠ yb := fun g hg => by have := o8.lt g (by simpa using hg); omega
  generalize (Value.slice sb sm sn).ownBlock.toList = Gy at ly IB9 hGy
  have IC9 := Lib.hid ((IC7.out.by' IB8.out k8 (by simp)).keep0 kB)
  have IB9 := Lib.hid IB9
  have LY := Lib.hid ly
  have HOy := Lib.hid (ansC_one w1a.st (v := .slice sb sm sn) w1a.len w1a.ch w1a.cl rfl)
  have HXG := Lib.hid (show ∀ g ∈ Gx, g < yb from fun g hg => by have := (LX7.out.gs g hg).2; omega)
  have HYM := Lib.hid (show m ≤ yb ∧ c < m ∧ w.heap.size ≤ m from ⟨by omega, by omega, hwm⟩)
  have HYB := Lib.hid hyb
  have hszu8 := kB.size
  clear h8 k8 n8 o8 g8 kB ly hyl IB8 IC7 HCo LX7 hyb
  go_upto_if 72 with (first
      | (with_reducible (show wpList _ _ _ ((⟨none, .store _ (.tmp 16) (.tmp 68), _, _, _, none⟩ : Oper) :: _) _ _)
         refine wpList_store_fresh rfl 33 (.tmp 16) (.tmp 68) rfl _ (ansC w1a.st (.slice sb sm sn) w1a.len w1a.ch w1a.cl) (by rfl) (by rfl) ans_size (by rfl) HOy.out ?_
         rw [hwB]
         try simp only [Act.put, List.setIfInBounds_toArray, List.set_cons_succ, List.set_cons_zero])
      | fail)
  rw [HYB.out]
  clear hwB HYB HOy
  go_cut [16, 17, 18] (fun yv ev mv wx => yv = .pointer (some ⟨yb, 0, Option.none⟩) ∧ ev = .string (S dA) ∧ mv = .int .i64 kA ∧ Hid (CutB w c m xb yb N (aA.getD ans0) wx))
  case first =>
    by_cases hk1 : k1 = 0
    case neg =>
      have q1 := (int_ne hk1).1
      have hT := HPL.out.2.2.2.2.2 hk1 (s.drop p)
      rw [List.take_append_drop] at hT
      obtain ⟨e1, e2, e3⟩ := told_det HPL.out.2.2.1 hT
      subst e1 e2 e3
      have hF := HW1.out
      have HF := Lib.hid (show CutB w c m xb yb N (aA.getD ans0) u8 from ⟨Gx, Gy, LX8.out, by rw [← hF]; exact LY.out, IC9.out.less (by simp)⟩)
      clear hk1 hT hF
      go_wp2_with fail
      go_meet
      exact ⟨rfl, rfl, rfl, HF⟩
    case pos =>
      subst hk1
      obtain ⟨P2, w2, d2, k2, a2, hc1, hc2, hc3, _, hT2, _, _⟩ := cut_round HPL.out.1 (HPL.out.2.2.2.2.1 rfl) (s.drop p) (by simp; omega)
      rw [List.take_append_drop] at hT2
      obtain ⟨e1, e2, e3⟩ := told_det HPL.out.2.2.1 hT2
      subst e1 e2 e3
      rw [← HW1.out] at hc3
      have hlen := told_len HPL.out.1 hT2
      have happ := S_append d1 d2
      have sd1 := S_size d1
      have sd2 := S_size d2
      have hov : ¬ 9223372036854775807 < d1.length + d2.length := by simp at hlen; omega
      have HAd := Lib.hid (rp_addX (s.drop p) IB9.out (by omega) (by omega) hc1)
      have HC2 := Lib.hid hc2
      have HC3 := Lib.hid hc3
      clear hc1 hc2 hc3 hT2 hlen
      go_wp2_with fail
      refine HAd.out.mono ?_
      rintro e w9 ⟨rfl, h9, k9⟩
      have hsz9 := k9.size
      have LX9 := Lib.hid (LX8.out.by' IB9.out k9 (by simp) (fun g hg => by simp [hg]))
      have LY9 := Lib.hid (LY.out.by' IB9.out k9 (by simp) (fun g hg => by simp [hg]))
      have IC10 := Lib.hid (IC9.out.by' IB9.out k9 (by simp))
      have IB10 := Lib.hid h9
      have HCo := Lib.hid (reply_comeX IB10.out HM.out (by omega) HC2.out)
      unfold CmOut at HCo
      dsimp only at HCo
      clear h9 k9 HAd IB9 IC9 LX8 LY HC2
      go_wp2_with fail
      refine HCo.out.mono ?_
      rintro e w10 ⟨sd, se, sf, Xz, rfl, h10, k10, n10, o10, g10⟩
      have hsz10 := k10.size
      have kC := (Keep.refl [] w10).alloc (.cells (ansC w2.st (.slice sd se sf) w2.len w2.ch w2.cl).toArray 33)
      have lz := La.new (a := w2) (m := m) o10 (by omega) (fun g hg => by have := (g10 g hg).1; omega)
      have bz := Blk.newA w10 (ansC w2.st (.slice sd se sf) w2.len w2.ch w2.cl).toArray 33
      generalize hwC : w10.alloc (.cells (ansC w2.st (.slice sd se sf) w2.len w2.ch w2.cl).toArray 33) = u10 at kC lz bz
      have bz : Blk u10 w10.heap.size 33 (ansC w2.st (.slice sd se sf) w2.len w2.ch w2.cl) := bz
      have oz := o10.keep0 kC
      have z0 := bz.get (k := 0) (v := .int .i64 w2.st) rfl
      have lx10 := (LX9.out.by' IB10.out k10 (by simp) (fun g hg => by simp [hg])).keep0 kC
      have ly10 := (LY9.out.by' IB10.out k10 (by simp) (fun g hg => by simp [hg])).keep0 kC
      have ic10 := (IC10.out.by' IB10.out k10 (by simp)).keep0 kC
      have hyH : yb ∉ (Value.slice sd se sf).ownBlock.toList := fun hh => by
        have h1 := (g10 yb (by simpa using hh)).1
        have h2 := LY9.out.lo.2
        omega
      have HOz := Lib.hid (ansC_one w2.st (v := .slice sd se sf) w2.len w2.ch w2.cl rfl)
      by_cases hz0 : w2.st = 0
      · have hp2 : pickA w1a w2 = w1a := by unfold pickA; rw [if_neg (by simp [hz0])]
        have hF := HC3.out
        rw [hp2] at hF
        have HF := Lib.hid (show CutB w c m xb yb N (aA.getD ans0) u10 from ⟨Gx, Gy, lx10, by rw [← hF]; exact ly10, ic10.less (by simp)⟩)
        rw [hz0] at z0
        clear hz0 hp2 hF lx10 ly10 ic10 hyH oz bz lz kC h10 k10 n10 o10 g10 IB10 IC10 LX9 LY9 HCo
        go_wp2_with (first
              | (with_reducible (show wpList _ _ _ ((⟨none, .store _ (.tmp 19) (.tmp 81), _, _, _, none⟩ : Oper) :: _) _ _)
                 refine wpList_store_fresh rfl 33 (.tmp 19) (.tmp 81) rfl _ (ansC w2.st (.slice sd se sf) w2.len w2.ch w2.cl) (by rfl) (by rfl) ans_size (by rfl) HOz.out ?_
                 rw [hwC]
                 try simp only [Act.put, List.setIfInBounds_toArray, List.set_cons_succ, List.set_cons_zero])
              | fail)
        go_meet
        exact ⟨rfl, rfl, rfl, HF⟩
      · have q2 := int_ne hz0
        obtain ⟨q2, q2'⟩ := q2
        have hp2 : pickA w1a w2 = w2 := by unfold pickA; rw [if_pos hz0]
        have hF := HC3.out
        rw [hp2] at hF
        have RZ := Lib.hid bz.range'
        have hby : Blk u10 yb 33 (ansC w1a.st (.slice sb sm sn) w1a.len w1a.ch w1a.cl) ∨ True := .inr trivial
        have HT := Lib.hid (show u10.there yb 0 5 from by
          obtain ⟨⟨_, _, _, hb1, _, _⟩, _, _⟩ := ly10
          exact hb1.there' 0 5 (by simp [ansC]))
        have ST := Lib.hid (ans_st w2.st (v := .slice sd se sf) w2.len w2.ch w2.cl rfl)
        have kS : Keep [yb] u10 (u10.setCells yb 0 (ansC w2.st (.slice sd se sf) w2.len w2.ch w2.cl)) := Keep.setCells' (S := [yb]) _ (by simp) _ _ _ (Keep.refl _ _)
        have lyo := ly10.over lz oz (fun g hg => by simp [hg]) hyH
        have hyx : ∀ g ∈ Gx, g ≠ yb := fun g hg => by have := LX9.out.gs g hg; have := HXG.out g hg; omega
        have HF := Lib.hid (show CutB w c m xb yb N (aA.getD ans0) (u10.setCells yb 0 (ansC w2.st (.slice sd se sf) w2.len w2.ch w2.cl)) from
          ⟨Gx, _, lx10.keep kS (by simpa using hxy) (fun g hg => by simpa using hyx g hg), by rw [← hF]; exact lyo, (ic10.less (by simp)).keep kS (fun x hx => by have h9 : x = yb := (by simpa using hx); rw [h9]; have := HYM.out; omega) (fun x hx => by have h9 : x = c := (by simpa using hx); have := HYM.out; simp; omega)⟩)
        clear hz0 hp2 hF lx10 ly10 ic10 hyH oz bz lz kC h10 k10 n10 o10 g10 IB10 IC10 LX9 LY9 HCo kS lyo hyx hby
        go_wp2_with (first
              | (with_reducible (show wpList _ _ _ ((⟨none, .store _ (.tmp 19) (.tmp 81), _, _, _, none⟩ : Oper) :: _) _ _)
                 refine wpList_store_fresh rfl 33 (.tmp 19) (.tmp 81) rfl _ (ansC w2.st (.slice sd se sf) w2.len w2.ch w2.cl) (by rfl) (by rfl) ans_size (by rfl) HOz.out ?_
                 rw [hwC]
                 try simp only [Act.put, List.setIfInBounds_toArray, List.set_cons_succ, List.set_cons_zero])
              | (with_reducible (show wpList _ _ _ ((⟨_, .load _ (.tmp 19), _, _, _, none⟩ : Oper) :: _) _ _)
                 refine wpList_load_mid rfl 33 (.tmp 19) rfl w10.heap.size 0 (by rfl) (ansC w2.st (.slice sd se sf) w2.len w2.ch w2.cl) _ RZ.out Tryd.underlying33 rfl ans_size ?_
                 try simp only [Act.put, List.setIfInBounds_toArray, List.set_cons_succ, List.set_cons_zero])
              | (with_reducible (show wpList _ _ _ ((⟨none, .store _ (.tmp 16) (.tmp 87), _, _, _, none⟩ : Oper) :: _) _ _)
                 refine wpList_store_mid rfl 33 (.tmp 16) (.tmp 87) rfl yb 0 (ansC w2.st (.slice sd se sf) w2.len w2.ch w2.cl).toArray (by rfl) (by first | rfl | kernel_rfl) HT.out ST.out.1 ST.out.2 ?_
                 try simp only [Act.put])
              | fail)
        go_meet
        exact ⟨rfl, rfl, rfl, HF⟩
  case rest =>
  obtain ⟨rfl, rfl, rfl, HB⟩ := hcut
  obtain ⟨Gx', Gy', lx, ly, ic⟩ := HB.out
  have kZ := (Keep.refl [] wc).alloc (.cells ansZ.toArray 33)
  have hmz : m ≤ wc.heap.size := by have := lx.lo; omega
  have lz := La.new (w0 := w) (w := wc) (m := m) (a := ans0) (sa := Option.none) (sl := 0) (sc := 0) (Own.nil _ _ _ _ _) hmz (fun g hg => by simp [Value.ownBlock] at hg)
  have bz0 := Blk.newA wc ansZ.toArray 33
  generalize hwZ : wc.alloc (.cells #[.int .i64 0, .slice Option.none 0 0, .int .i64 0, .bool false, .bool false] 33) = uZ
  have hwZ' : wc.alloc (.cells ansZ.toArray 33) = uZ := hwZ
  rw [hwZ'] at kZ bz0
  replace lz : La w uZ m wc.heap.size ans0 [] := by rw [← hwZ']; exact lz
  have bz0 : Blk uZ wc.heap.size 33 ansZ := bz0
  have HTZ := Lib.hid (bz0.there' 0 5 (by simp [ansZ, ansC]))
  have ZST := Lib.hid (ans_st 0 (v := .slice Option.none 0 0) 0 false false rfl)
  have kSZ : Keep [wc.heap.size] uZ (uZ.setCells wc.heap.size 0 ansZ) := Keep.setCells' (S := [wc.heap.size]) _ (by simp) _ _ _ (Keep.refl _ _)
  have lz2 := La.over (c := ans0) (sa := Option.none) (sl := 0) (sc := 0) lz lz (Own.nil _ _ _ _ _) (fun g hg => by simp [Value.ownBlock] at hg) (by simp)
  have e0 : ansC ans0.st (.slice Option.none 0 0) ans0.len ans0.ch ans0.cl = ansZ := rfl
  rw [e0] at lz2
  obtain ⟨zb, hzb⟩ : ∃ zb, wc.heap.size = zb := ⟨_, rfl⟩
  have hcm : ∀ x ∈ [c], x < m := fun x hx => by have h9 : x = c := (by simpa using hx); have := HYM.out; omega
  have HC0 := Lib.hid (show CutC w s N m c xb yb wc.heap.size aA dA kA 0 [] 0 (uZ.setCells wc.heap.size 0 ansZ) from by
    have hxz : xb ≠ wc.heap.size := by have := lx.lo.2; omega
    have hyz : yb ≠ wc.heap.size := by have := ly.lo.2; omega
    refine ⟨[c], Gx', Gy', [], N, ans0, ?_, (lx.keep0 kZ).keep kSZ (by simpa using hxz) (fun g hg => by have := (lx.gs g hg).2; simp; omega), (ly.keep0 kZ).keep kSZ (by simpa using hyz) (fun g hg => by have := (ly.gs g hg).2; simp; omega), lz2, ⟨hxz, hyz, fun g hg => by
      rcases hg with hg | hg
      · have := (lx.gs g hg).2; omega
      · have := (ly.gs g hg).2; omega⟩, .inl ⟨rfl, Option.none, by rw [List.take_zero]; exact HPL.out.2.1, rfl⟩⟩
    have h3 := (((ic.keep0 kZ).more (lx.keep0 kZ) hcm).more (ly.keep0 kZ) hcm).more lz hcm
    have h4 := h3.keep kSZ (fun x hx => by have h9 : x = wc.heap.size := (by simpa using hx); have := ic.kp.size; omega) (fun x hx hh => by have h9 : x = wc.heap.size := (by simpa using hh); have := hcm x hx; omega)
    exact h4.less (fun l hl => by
      simp only [List.mem_cons, List.mem_append, List.not_mem_nil, or_false, List.append_nil] at hl ⊢
      rcases hl with h | h | h | h | h <;> simp [h]))
  rw [hzb] at HC0
  have HZB := Lib.hid hzb
  clear LX8 LY IB9 IC9 HB HE HW1 HXG lx ly ic kZ lz hzb bz0 kSZ lz2
  go_wp2_with (first
    | (with_reducible (show wpList _ _ _ ((⟨none, .store _ (.tmp 22) (.tmp 92), _, _, _, none⟩ : Oper) :: _) _ _)
       refine wpList_store_mid rfl 33 (.tmp 22) (.tmp 92) rfl wc.heap.size 0 ansZ.toArray (by rfl) (by first | rfl | kernel_rfl) HTZ.out ZST.out.1 ZST.out.2 ?_
       try simp only [Act.put])
    | fail)
  rw [HZB.out]
  clear hwZ hwZ' HZB HTZ
  go_loopg [23, 24, 25] s.length (fun g fv iv pv wr => ∃ (k : Nat) (f : List UInt8) (i : Int), fv = .string (S f) ∧ iv = .int .i64 i ∧ pv = .int .i64 (k : Nat) ∧ k ≤ s.length ∧ g = s.length - k ∧ Hid (CutC w s N m c xb yb zb aA dA kA k f i wr))
  case atStart => exact ⟨0, [], 0, rfl, rfl, rfl, by omega, rfl, HC0⟩
  case round =>
    obtain ⟨k, f, i, rfl, rfl, rfl, hk, hg, HC⟩ := hrel
    obtain ⟨X, Gx, Gy, Gz, P, z, hr, lx, ly, lz, hne, hcase⟩ := HC.out
    have wk := IntWalk.i64_in ((k : Int) + 1) (by omega)
    by_cases hi : i = 0
    case neg =>
      have hz : z = aA.getD ans0 ∧ f = dA ∧ i = kA := by
        rcases hcase with ⟨h, _⟩ | ⟨_, h⟩
        · exact absurd h hi
        · exact h
      obtain ⟨rfl, h2, h3⟩ := hz
      have h2' := h2.symm
      have h3' := h3.symm
      clear h2 h3
      subst h2' h3'
      obtain ⟨q2, q2'⟩ := int_ne hi
      by_cases hlt : k < s.length
      · have q1 : decide (k < s.length) = true := decide_eq_true hlt
        clear hi hlt hg hk
        obtain ⟨⟨sx, lx1, cx, bx, ox, _⟩, _, _⟩ := lx
        obtain ⟨⟨sy, ly1, cy, byy, oy, _⟩, _, _⟩ := ly
        obtain ⟨⟨sz, lz1, cz, bz, oz, _⟩, _, _⟩ := lz
        have HK := Lib.hid hr.kp
        have RX := Lib.hid bx.range'
        have RY := Lib.hid byy.range'
        have HS1 := Lib.hid (law14_same (aA.getD ans0) ox oy)
        have HR := Lib.hid (fun w' (k : Keep [] wr w') => And.intro (kx2 bx k).range' (And.intro (kx2 bz k).range' (law14_same (aA.getD ans0) (ox.keep0 k) (oz.keep0 k))))
        have td := S_toList dA
        clear hr bx byy bz ox oy oz hne HC hcase
        go_wp2_with (first
              | (with_reducible (show wpList _ _ _ ((⟨_, .load 33 (.tmp 13), _, _, _, some _⟩ : Oper) :: _) _ _)
                 refine wpList_load_mG (by rfl) 33 (.tmp 13) rfl xb 0 (by rfl) (ansC (aA.getD ans0).st (.slice sx lx1 cx) (aA.getD ans0).len (aA.getD ans0).ch (aA.getD ans0).cl) _ RX.out Tryd.underlying33 rfl ans_size ?_
                 try simp only [Act.put, List.setIfInBounds_toArray, List.set_cons_succ, List.set_cons_zero])
              | (with_reducible (show wpList _ _ _ ((⟨_, .load 33 (.tmp 16), _, _, _, some _⟩ : Oper) :: _) _ _)
                 refine wpList_load_mG (by rfl) 33 (.tmp 16) rfl yb 0 (by rfl) (ansC (aA.getD ans0).st (.slice sy ly1 cy) (aA.getD ans0).len (aA.getD ans0).ch (aA.getD ans0).cl) _ RY.out Tryd.underlying33 rfl ans_size ?_
                 try simp only [Act.put, List.setIfInBounds_toArray, List.set_cons_succ, List.set_cons_zero])
              | fail)
        refine HS1.out.mono ?_
        rintro e v1 ⟨rfl, k1⟩
        have HK1 := Lib.hid (HK.out.trans k1)
        have RX1 := Lib.hid (HR.out _ k1).1
        have RZ1 := Lib.hid (HR.out _ k1).2.1
        have HS2 := Lib.hid (HR.out _ k1).2.2
        clear k1 HR RX RY HS1 HK
        go_wp2_with (first
              | (with_reducible (show wpList _ _ _ ((⟨_, .load 33 (.tmp 13), _, _, _, some _⟩ : Oper) :: _) _ _)
                 refine wpList_load_mG (by rfl) 33 (.tmp 13) rfl xb 0 (by rfl) (ansC (aA.getD ans0).st (.slice sx lx1 cx) (aA.getD ans0).len (aA.getD ans0).ch (aA.getD ans0).cl) _ RX1.out Tryd.underlying33 rfl ans_size ?_
                 try simp only [Act.put, List.setIfInBounds_toArray, List.set_cons_succ, List.set_cons_zero])
              | (with_reducible (show wpList _ _ _ ((⟨_, .load 33 (.tmp 22), _, _, _, some _⟩ : Oper) :: _) _ _)
                 refine wpList_load_mG (by rfl) 33 (.tmp 22) rfl zb 0 (by rfl) (ansC (aA.getD ans0).st (.slice sz lz1 cz) (aA.getD ans0).len (aA.getD ans0).ch (aA.getD ans0).cl) _ RZ1.out Tryd.underlying33 rfl ans_size ?_
                 try simp only [Act.put, List.setIfInBounds_toArray, List.set_cons_succ, List.set_cons_zero])
              | fail)
        refine HS2.out.mono ?_
        rintro e v2 ⟨rfl, k2⟩
        have HK2 := Lib.hid (HK1.out.trans k2)
        clear k2 HK1 HS2
        go_wp2_with fail
        try rw [Exit.noGoto_ret]
        go_ret
        exact ⟨rfl, HK2.out⟩
      · have q1 : decide (k < s.length) = false := decide_eq_false hlt
        clear hi hlt hg hk
        obtain ⟨⟨sx, lx1, cx, bx, ox, _⟩, _, _⟩ := lx
        obtain ⟨⟨sy, ly1, cy, byy, oy, _⟩, _, _⟩ := ly
        obtain ⟨⟨sz, lz1, cz, bz, oz, _⟩, _, _⟩ := lz
        have HK := Lib.hid hr.kp
        have RX := Lib.hid bx.range'
        have RY := Lib.hid byy.range'
        have HS1 := Lib.hid (law14_same (aA.getD ans0) ox oy)
        have HR := Lib.hid (fun w' (k : Keep [] wr w') => And.intro (kx2 bx k).range' (And.intro (kx2 bz k).range' (law14_same (aA.getD ans0) (ox.keep0 k) (oz.keep0 k))))
        have td := S_toList dA
        clear hr bx byy bz ox oy oz hne HC hcase
        go_wp2_with (first
              | (with_reducible (show wpList _ _ _ ((⟨_, .load 33 (.tmp 13), _, _, _, some _⟩ : Oper) :: _) _ _)
                 refine wpList_load_mG (by rfl) 33 (.tmp 13) rfl xb 0 (by rfl) (ansC (aA.getD ans0).st (.slice sx lx1 cx) (aA.getD ans0).len (aA.getD ans0).ch (aA.getD ans0).cl) _ RX.out Tryd.underlying33 rfl ans_size ?_
                 try simp only [Act.put, List.setIfInBounds_toArray, List.set_cons_succ, List.set_cons_zero])
              | (with_reducible (show wpList _ _ _ ((⟨_, .load 33 (.tmp 16), _, _, _, some _⟩ : Oper) :: _) _ _)
                 refine wpList_load_mG (by rfl) 33 (.tmp 16) rfl yb 0 (by rfl) (ansC (aA.getD ans0).st (.slice sy ly1 cy) (aA.getD ans0).len (aA.getD ans0).ch (aA.getD ans0).cl) _ RY.out Tryd.underlying33 rfl ans_size ?_
                 try simp only [Act.put, List.setIfInBounds_toArray, List.set_cons_succ, List.set_cons_zero])
              | fail)
        refine HS1.out.mono ?_
        rintro e v1 ⟨rfl, k1⟩
        have HK1 := Lib.hid (HK.out.trans k1)
        have RX1 := Lib.hid (HR.out _ k1).1
        have RZ1 := Lib.hid (HR.out _ k1).2.1
        have HS2 := Lib.hid (HR.out _ k1).2.2
        clear k1 HR RX RY HS1 HK
        go_wp2_with (first
              | (with_reducible (show wpList _ _ _ ((⟨_, .load 33 (.tmp 13), _, _, _, some _⟩ : Oper) :: _) _ _)
                 refine wpList_load_mG (by rfl) 33 (.tmp 13) rfl xb 0 (by rfl) (ansC (aA.getD ans0).st (.slice sx lx1 cx) (aA.getD ans0).len (aA.getD ans0).ch (aA.getD ans0).cl) _ RX1.out Tryd.underlying33 rfl ans_size ?_
                 try simp only [Act.put, List.setIfInBounds_toArray, List.set_cons_succ, List.set_cons_zero])
              | (with_reducible (show wpList _ _ _ ((⟨_, .load 33 (.tmp 22), _, _, _, some _⟩ : Oper) :: _) _ _)
                 refine wpList_load_mG (by rfl) 33 (.tmp 22) rfl zb 0 (by rfl) (ansC (aA.getD ans0).st (.slice sz lz1 cz) (aA.getD ans0).len (aA.getD ans0).ch (aA.getD ans0).cl) _ RZ1.out Tryd.underlying33 rfl ans_size ?_
                 try simp only [Act.put, List.setIfInBounds_toArray, List.set_cons_succ, List.set_cons_zero])
              | fail)
        refine HS2.out.mono ?_
        rintro e v2 ⟨rfl, k2⟩
        have HK2 := Lib.hid (HK1.out.trans k2)
        clear k2 HK1 HS2
        go_wp2_with fail
        try rw [Exit.noGoto_ret]
        go_ret
        exact ⟨rfl, HK2.out⟩
    case pos =>
    subst hi
    obtain ⟨a, hS, rfl⟩ : ∃ a, Seen N (s.take k) P a f ∧ z = a.getD ans0 := by
      rcases hcase with ⟨_, h⟩ | ⟨h, _⟩
      · exact h
      · exact absurd rfl h
    by_cases hlt : k < s.length
    case neg =>
      have hT := told_seen hS
      rw [List.take_of_length_le (by omega)] at hT
      obtain ⟨e1, e2, e3⟩ := told_det HPL.out.2.2.1 hT
      subst e1 e2 e3
      have q1 : decide (k < s.length) = false := decide_eq_false hlt
      clear hlt hg hk hT hS
      obtain ⟨⟨sx, lx1, cx, bx, ox, _⟩, _, _⟩ := lx
      obtain ⟨⟨sy, ly1, cy, byy, oy, _⟩, _, _⟩ := ly
      obtain ⟨⟨sz, lz1, cz, bz, oz, _⟩, _, _⟩ := lz
      have HK := Lib.hid hr.kp
      have RX := Lib.hid bx.range'
      have RY := Lib.hid byy.range'
      have HS1 := Lib.hid (law14_same (aA.getD ans0) ox oy)
      have HR := Lib.hid (fun w' (k : Keep [] wr w') => And.intro (kx2 bx k).range' (And.intro (kx2 bz k).range' (law14_same (aA.getD ans0) (ox.keep0 k) (oz.keep0 k))))
      have td := S_toList dA
      clear hr bx byy bz ox oy oz hne HC hcase
      go_wp2_with (first
            | (with_reducible (show wpList _ _ _ ((⟨_, .load 33 (.tmp 13), _, _, _, some _⟩ : Oper) :: _) _ _)
               refine wpList_load_mG (by rfl) 33 (.tmp 13) rfl xb 0 (by rfl) (ansC (aA.getD ans0).st (.slice sx lx1 cx) (aA.getD ans0).len (aA.getD ans0).ch (aA.getD ans0).cl) _ RX.out Tryd.underlying33 rfl ans_size ?_
               try simp only [Act.put, List.setIfInBounds_toArray, List.set_cons_succ, List.set_cons_zero])
            | (with_reducible (show wpList _ _ _ ((⟨_, .load 33 (.tmp 16), _, _, _, some _⟩ : Oper) :: _) _ _)
               refine wpList_load_mG (by rfl) 33 (.tmp 16) rfl yb 0 (by rfl) (ansC (aA.getD ans0).st (.slice sy ly1 cy) (aA.getD ans0).len (aA.getD ans0).ch (aA.getD ans0).cl) _ RY.out Tryd.underlying33 rfl ans_size ?_
               try simp only [Act.put, List.setIfInBounds_toArray, List.set_cons_succ, List.set_cons_zero])
            | fail)
      refine HS1.out.mono ?_
      rintro e v1 ⟨rfl, k1⟩
      have HK1 := Lib.hid (HK.out.trans k1)
      have RX1 := Lib.hid (HR.out _ k1).1
      have RZ1 := Lib.hid (HR.out _ k1).2.1
      have HS2 := Lib.hid (HR.out _ k1).2.2
      clear k1 HR RX RY HS1 HK
      go_wp2_with (first
            | (with_reducible (show wpList _ _ _ ((⟨_, .load 33 (.tmp 13), _, _, _, some _⟩ : Oper) :: _) _ _)
               refine wpList_load_mG (by rfl) 33 (.tmp 13) rfl xb 0 (by rfl) (ansC (aA.getD ans0).st (.slice sx lx1 cx) (aA.getD ans0).len (aA.getD ans0).ch (aA.getD ans0).cl) _ RX1.out Tryd.underlying33 rfl ans_size ?_
               try simp only [Act.put, List.setIfInBounds_toArray, List.set_cons_succ, List.set_cons_zero])
            | (with_reducible (show wpList _ _ _ ((⟨_, .load 33 (.tmp 22), _, _, _, some _⟩ : Oper) :: _) _ _)
               refine wpList_load_mG (by rfl) 33 (.tmp 22) rfl zb 0 (by rfl) (ansC (aA.getD ans0).st (.slice sz lz1 cz) (aA.getD ans0).len (aA.getD ans0).ch (aA.getD ans0).cl) _ RZ1.out Tryd.underlying33 rfl ans_size ?_
               try simp only [Act.put, List.setIfInBounds_toArray, List.set_cons_succ, List.set_cons_zero])
            | fail)
      refine HS2.out.mono ?_
      rintro e v2 ⟨rfl, k2⟩
      have HK2 := Lib.hid (HK1.out.trans k2)
      clear k2 HK1 HS2
      go_wp2_with fail
      try rw [Exit.noGoto_ret]
      go_ret
      exact ⟨rfl, HK2.out⟩
    have q1 : decide (k < s.length) = true := decide_eq_true hlt
    have hcat : s.take k ++ (s.take (k + 1)).drop k = s.take (k + 1) := by
      have := List.take_append_drop k (s.take (k + 1))
      rw [List.take_take, Nat.min_eq_left (by omega)] at this
      exact this
    have htl1 : ((s.take (k + 1)).drop k).length = 1 := by rw [List.length_drop, List.length_take]; omega
    have hkl : (s.take k).length = k := by rw [List.length_take]; omega
    obtain ⟨P', u, d', k', a', r1, r2, r3, _, rT, rS, rR⟩ := cut_round HPL.out.1 hS ((s.take (k + 1)).drop k) (by omega)
    rw [hcat] at rT rS rR
    have hx3 : (S s).extract k (k + 1) = S ((s.take (k + 1)).drop k) := by rw [S_extract]
    have hlen := told_len HPL.out.1 rT
    have hl1 : (s.take (k + 1)).length ≤ 2048 := by rw [List.length_take]; omega
    have sf := S_size f
    have sd' := S_size d'
    have happ := S_append f d'
    have hov : ¬ 9223372036854775807 < f.length + d'.length := by simp at hlen; omega
    have hcase' : ((k' = 0 ∧ ∃ a, Seen N (s.take (k + 1)) P' a (f ++ d') ∧ pickA (a.getD ans0) u = a.getD ans0) ∨ True) := .inr trivial
    have HNX := Lib.hid (show (k' = 0 ∧ ∃ b, Seen N (s.take (k + 1)) P' b (f ++ d') ∧ pickA (a.getD ans0) u = b.getD ans0) ∨ (k' ≠ 0 ∧ pickA (a.getD ans0) u = aA.getD ans0 ∧ f ++ d' = dA ∧ k' = kA) from by
      by_cases h0 : k' = 0
      · exact .inl ⟨h0, a', rS h0, r3⟩
      · have hT := rR h0 (s.drop (k + 1))
        rw [List.take_append_drop] at hT
        obtain ⟨e1, e2, e3⟩ := told_det HPL.out.2.2.1 hT
        exact .inr ⟨h0, by rw [e1]; exact r3, e2.symm, e3.symm⟩)
    have HAd := Lib.hid (rp_addX ((s.take (k + 1)).drop k) hr (by omega) (by omega) r1)
    rw [htl1] at HAd
    have HRp := Lib.hid hr
    have LX := Lib.hid lx
    have LY := Lib.hid ly
    have LZ := Lib.hid lz
    have HNE := Lib.hid hne
    have HR2 := Lib.hid r2
    have ik0 : (0 : Int) ≤ (k : Int) := by omega
    have ik1 : (k : Int) ≤ (k : Int) + 1 := by omega
    have ik2 : (k : Int) + 1 ≤ (s.length : Int) := by omega
    clear hr lx ly lz hne r1 r2 r3 rT rS rR hcase hcase' hcat hS hlen HC hkl hl1
    go_wp2_with fail
    refine HAd.out.mono ?_
    rintro e v1 ⟨rfl, h1, k1⟩
    have LX1 := Lib.hid (LX.out.by' HRp.out k1 (by simp) (fun g hg => by simp [hg]))
    have LY1 := Lib.hid (LY.out.by' HRp.out k1 (by simp) (fun g hg => by simp [hg]))
    have LZ1 := Lib.hid (LZ.out.by' HRp.out k1 (by simp) (fun g hg => by simp [hg]))
    have H1 := Lib.hid h1
    have HCo := Lib.hid (reply_comeX H1.out HM.out (by omega) HR2.out)
    unfold CmOut at HCo
    dsimp only at HCo
    clear h1 k1 HAd LX LY LZ HRp HR2
    go_wp2_with fail
    refine HCo.out.mono ?_
    rintro e v2 ⟨sd, se, sf', X2, rfl, h2, k2, n2, o2, g2⟩
    have hsz2 := k2.size
    have kC := (Keep.refl [] v2).alloc (.cells (ansC u.st (.slice sd se sf') u.len u.ch u.cl).toArray 33)
    have hmv : m ≤ v1.heap.size := by have := LX1.out.lo; omega
    have lt := La.new (a := u) (m := m) o2 (by omega) (fun g hg => by have := (g2 g hg).1; omega)
    have bz := Blk.newA v2 (ansC u.st (.slice sd se sf') u.len u.ch u.cl).toArray 33
    generalize hwC : v2.alloc (.cells (ansC u.st (.slice sd se sf') u.len u.ch u.cl).toArray 33) = u2 at kC lt bz
    have bz : Blk u2 v2.heap.size 33 (ansC u.st (.slice sd se sf') u.len u.ch u.cl) := bz
    have oz := o2.keep0 kC
    have z0 := bz.get (k := 0) (v := .int .i64 u.st) rfl
    have lx := (LX1.out.by' H1.out k2 (by simp) (fun g hg => by simp [hg])).keep0 kC
    have ly := (LY1.out.by' H1.out k2 (by simp) (fun g hg => by simp [hg])).keep0 kC
    have lz := (LZ1.out.by' H1.out k2 (by simp) (fun g hg => by simp [hg])).keep0 kC
    have h2' := h2.keep0 kC
    have hne := HNE.out
    have HOz := Lib.hid (ansC_one u.st (v := .slice sd se sf') u.len u.ch u.cl rfl)
    by_cases hz0 : u.st = 0
    · have hp2 : pickA (a.getD ans0) u = a.getD ans0 := by unfold pickA; rw [if_neg (by simp [hz0])]
      have hN := HNX.out
      rw [hp2] at hN
      have HF := Lib.hid (show CutC w s N m c xb yb zb aA dA kA (k + 1) (f ++ d') k' u2 from ⟨X2, Gx, Gy, Gz, P', a.getD ans0, h2', lx, ly, lz, hne, hN⟩)
      rw [hz0] at z0
      clear hz0 hp2 hN lx ly lz h2' hne oz bz lt kC h2 k2 n2 o2 g2 H1 LX1 LY1 LZ1 HCo HNX
      go_wp2_with (first
            | (with_reducible (show wpList _ _ _ ((⟨none, .store _ (.tmp 26) (.tmp 113), _, _, _, none⟩ : Oper) :: _) _ _)
               refine wpList_store_fresh rfl 33 (.tmp 26) (.tmp 113) rfl _ (ansC u.st (.slice sd se sf') u.len u.ch u.cl) (by rfl) (by rfl) ans_size (by rfl) HOz.out ?_
               rw [hwC]
               try simp only [Act.put, List.setIfInBounds_toArray, List.set_cons_succ, List.set_cons_zero])
            | fail)
      go_roundg (s.length - (k + 1))
      case measure => omega
      case rel => exact ⟨k + 1, f ++ d', k', rfl, rfl, by go_num, by omega, rfl, HF⟩
    · obtain ⟨q2, q2'⟩ := int_ne hz0
      have hp2 : pickA (a.getD ans0) u = u := by unfold pickA; rw [if_pos hz0]
      have hN := HNX.out
      rw [hp2] at hN
      have RZ := Lib.hid bz.range'
      have HT := Lib.hid (show u2.there zb 0 5 from by
        obtain ⟨⟨_, _, _, hb1, _, _⟩, _, _⟩ := lz
        exact hb1.there' 0 5 (by simp [ansC]))
      have ST := Lib.hid (ans_st u.st (v := .slice sd se sf') u.len u.ch u.cl rfl)
      have kS : Keep [zb] u2 (u2.setCells zb 0 (ansC u.st (.slice sd se sf') u.len u.ch u.cl)) := Keep.setCells' (S := [zb]) _ (by simp) _ _ _ (Keep.refl _ _)
      have hzH : zb ∉ (Value.slice sd se sf').ownBlock.toList := fun hh => by
        have h1 := (g2 zb (by simpa using hh)).1
        have h2 := LZ1.out.lo.2
        omega
      have lzo := lz.over lt oz (fun g hg => by simp [hg]) hzH
      have hap : zb ∉ X2 := (h2'.ap zb (by simp)).1
      have HF := Lib.hid (show CutC w s N m c xb yb zb aA dA kA (k + 1) (f ++ d') k' (u2.setCells zb 0 (ansC u.st (.slice sd se sf') u.len u.ch u.cl)) from
        ⟨X2, Gx, Gy, _, P', u, by
          have h3 := h2'.keep kS (fun x hx => by have h9 : x = zb := (by simpa using hx); rw [h9]; have := LZ1.out.lo; have := HYM.out; omega) (fun x hx hh => by have h9 : x = zb := (by simpa using hh); exact hap (h9 ▸ hx))
          have h4 := (h3.less (L' := xb :: yb :: zb :: (Gx ++ Gy)) (fun l hl => by simp only [List.mem_cons, List.mem_append] at hl ⊢; rcases hl with h | h | h | h | h <;> simp [h])).more2 (G := (Value.slice sd se sf').ownBlock.toList) (fun g hg => ⟨(g2 g (by simpa using hg)).2, Nat.lt_of_lt_of_le (lt.gs g hg).2 kS.size⟩)
          exact h4.less (fun l hl => by simp only [List.mem_cons, List.mem_append] at hl ⊢; rcases hl with h | h | h | h | h <;> simp [h]), lx.keep kS (by simpa using hne.1) (fun g hg => by simpa using hne.2.2 g (.inl hg)), ly.keep kS (by simpa using hne.2.1) (fun g hg => by simpa using hne.2.2 g (.inr hg)), lzo, hne, hN⟩)
      clear hz0 hp2 hN lx ly lz h2' hne oz bz lt kC h2 k2 n2 o2 g2 H1 LX1 LY1 LZ1 HCo HNX kS hzH lzo hap
      go_wp2_with (first
            | (with_reducible (show wpList _ _ _ ((⟨none, .store _ (.tmp 26) (.tmp 113), _, _, _, none⟩ : Oper) :: _) _ _)
               refine wpList_store_fresh rfl 33 (.tmp 26) (.tmp 113) rfl _ (ansC u.st (.slice sd se sf') u.len u.ch u.cl) (by rfl) (by rfl) ans_size (by rfl) HOz.out ?_
               rw [hwC]
               try simp only [Act.put, List.setIfInBounds_toArray, List.set_cons_succ, List.set_cons_zero])
            | (with_reducible (show wpList _ _ _ ((⟨_, .load _ (.tmp 26), _, _, _, none⟩ : Oper) :: _) _ _)
               refine wpList_load_mid rfl 33 (.tmp 26) rfl v2.heap.size 0 (by rfl) (ansC u.st (.slice sd se sf') u.len u.ch u.cl) _ RZ.out Tryd.underlying33 rfl ans_size ?_
               try simp only [Act.put, List.setIfInBounds_toArray, List.set_cons_succ, List.set_cons_zero])
            | (with_reducible (show wpList _ _ _ ((⟨none, .store _ (.tmp 22) (.tmp 119), _, _, _, none⟩ : Oper) :: _) _ _)
               refine wpList_store_mid rfl 33 (.tmp 22) (.tmp 119) rfl zb 0 (ansC u.st (.slice sd se sf') u.len u.ch u.cl).toArray (by rfl) (by first | rfl | kernel_rfl) HT.out ST.out.1 ST.out.2 ?_
               try simp only [Act.put])
            | fail)
      go_roundg (s.length - (k + 1))
      case measure => omega
      case rel => exact ⟨k + 1, f ++ d', k', rfl, rfl, by go_num, by omega, rfl, HF⟩
end Go.Proofs.YtdmffbefppjllaaDoor
