/- Parts of the proof of GuestTurns, in order. No conditions but those that each theorem states. -/
import Derived.Test.YtdmffbefppjllaaDoorZGuestTurns4
import Derived.OpenShut
/- Layer 26: what the statements are awake to. No conditions. -/
namespace Go.Proofs.YtdmffbefppjllaaDoor
open Go.RowKit Go.Shelf

def agL : List UInt8 := askL [47, 97] ++ askL [47, 98]
def agQ (c : UInt8) : Req := ⟨getB, [47, c], hK, false⟩
def ag1 : Gs := ⟨{ in0 with inp := agL }, [], false, false, 0⟩
def ag2 : Gs := ⟨{ in0 with inp := askL [47, 98] }, [], true, false, 0⟩
def ag3 : Gs := ⟨{ in0 with inp := askL [47, 98] }, [111, 110, 101], true, false, 0⟩
def ag4 : Gs := ⟨{ in0 with inp := askL [47, 98] }, [111, 110, 101], false, false, 1⟩
def ag5 : Gs := ⟨in0, [111, 110, 101], true, false, 1⟩
def ag6 : Gs := ⟨in0, [111, 110, 101, 116, 119, 111], true, false, 1⟩
def ag7 : Gs := ⟨in0, [111, 110, 101, 116, 119, 111], false, true, 2⟩
def ag8 : Gs := ⟨in0, [119, 111], false, true, 2⟩
def ag9 : Gs := ⟨in0, [], false, true, 2⟩
theorem agS1 : sayG gs0 agL = (ag1, 0) := by kernel_rfl
theorem agN1 : nextG ag1 = ⟨ag2, agQ 97, 200⟩ := by kernel_rfl
theorem agN2 : nextG ag2 = ⟨ag2, req0, 0⟩ := by kernel_rfl
theorem agP3 : putG ag2 [111, 110, 101] = (ag3, 0) := by kernel_rfl
theorem agD4 : doneG ag3 false = ag4 := by kernel_rfl
theorem agN5 : nextG ag4 = ⟨ag5, agQ 98, 200⟩ := by kernel_rfl
theorem agP6 : putG ag5 [116, 119, 111] = (ag6, 0) := by kernel_rfl
theorem agD7 : doneG ag6 true = ag7 := by kernel_rfl
theorem agR8 : ag7.out.take (drainG ag7 4) = [111, 110, 101, 116] ∧ ({ ag7 with out := ag7.out.drop (drainG ag7 4) } : Gs) = ag8 := ⟨by kernel_rfl, by kernel_rfl⟩
theorem agR9 : ag8.out.take (drainG ag8 99) = [119, 111] ∧ ({ ag8 with out := ag8.out.drop (drainG ag8 99) } : Gs) = ag9 := ⟨by kernel_rfl, by kernel_rfl⟩
theorem agS9 : (sayG ag9 [120]).2 = 8 := by kernel_rfl
theorem ag1_ok : ag1.I.ok := by
  have h := inAdd_ok in0_ok agL
  have e : (inAdd in0 agL).1 = ag1.I := by kernel_rfl
  rw [e] at h; exact h
theorem ag2_ok : ag2.I.ok := by
  have h := next_ok ag1_ok
  have e : (nextI ag1.I).p = ag2.I := by kernel_rfl
  rw [e] at h; exact h
theorem GtX {B g p : Nat} {w : World} {X R : List Nat} {G : Gs} (h : Gt B w g p X R G) : ∀ x ∈ g :: X, B ≤ x := fun x hx => by
  rcases List.mem_cons.1 hx with rfl | hx
  · exact h.lo
  · exact (h.it.lo x hx).1
theorem GtG {B g p : Nat} {w : World} {X R : List Nat} {G : Gs} (h : Gt B w g p X R G) : ∀ x ∈ [g], B ≤ x := fun x hx => by
  have h9 : x = g := (by simpa using hx)
  rw [h9]; exact h.lo
/-- a block made here is none of the guest's -/
theorem GtN {B g p : Nat} {w : World} {X R : List Nat} {G : Gs} (h : Gt B w g p X R G) : w.heap.size ∉ g :: X := fun hh => by
  rcases List.mem_cons.1 hh with h1 | h1
  · have := h.glt; omega
  · have := (h.it.lo _ h1).2; omega
theorem GtN' {B g p : Nat} {w w' : World} {X R X' R' : List Nat} {G G' : Gs} {n : Nat} (h : n ∉ g :: X) (_ : Gt B w g p X R G) (_ : Gt B w' g p X' R' G') (hn : ∀ x ∈ X', x ∈ X ∨ w.heap.size ≤ x) (hl : n < w.heap.size) : n ∉ g :: X' := fun hh => by
  rcases List.mem_cons.1 hh with h1 | h1
  · exact h (by simp [h1])
  · rcases hn n h1 with h2 | h2
    · exact h (List.mem_cons_of_mem _ h2)
    · omega
set_option maxRecDepth 100000 in
set_option maxHeartbeats 8000000 in
theorem guest_awake (w : World) (hm : ML w) : Calls Tryd.prog 14 #[] w fun e w' => e = .returned (.bool true) ∧ Keep [] w w' := by
  have hbig := hm.lt
  have HM := Lib.hid hm
  have HN := Lib.hid (guest_New w.heap.size w (Nat.le_refl _))
  have HA1 := Lib.hid (fun w' => law26_ask [47, 97] w' (by decide))
  have HA2 := Lib.hid (fun w' => law26_ask [47, 98] w' (by decide))
  have hcat : S (askL [47, 97]) ++ S (askL [47, 98]) = S agL := S_append _ _
  have la : (askL [47, 97]).length = 28 := by kernel_rfl
  have lb : (askL [47, 98]).length = 28 := by kernel_rfl
  have sa := S_size (askL [47, 97])
  have sb := S_size (askL [47, 98])
  generalize hxa : askL [47, 97] = xa at hcat la sa HA1
  generalize hxb : askL [47, 98] = xb at hcat lb sb HA2
  have t1 := S_toList [47, 97]
  have t2 := S_toList [47, 98]
  have t3 := S_toList [111, 110, 101, 116]
  have t4 := S_toList [119, 111]
  clear hm hxa hxb
  go_enter Tryd.func14, Tryd.ntmps14
  go_wp2_with fail
  refine HN.out.mono ?_
  rintro e w1 ⟨g, p, rfl, hg, h1, k1⟩
  have K1 := Lib.hid k1
  have H1 := Lib.hid h1
  have HS := Lib.hid (guest_Say agL h1 (by decide) (by decide +kernel))
  rw [agS1] at HS
  clear h1 k1 HN
  go_wp2_with fail
  refine (HA1.out _).mono ?_
  rintro e w1' ⟨rfl, rfl⟩
  go_wp2_with fail
  refine (HA2.out _).mono ?_
  rintro e w1' ⟨rfl, rfl⟩
  clear HA1 HA2
  go_wp2_with fail
  refine HS.out.mono ?_
  rintro e w2 ⟨rfl, h2, k2⟩
  have K2 := Lib.hid (K1.out.above k2 (fun x hx => (H1.out.it.lo x hx).1))
  have H2 := Lib.hid h2
  have HX := Lib.hid (guest_Next h2 (HM.out.keep K2.out (by simp)) K2.out.size hbig ag1_ok)
  rw [agN1] at HX
  unfold NgOut at HX
  dsimp only at HX
  clear h2 k2 HS H1 K1 hcat la lb sa sb
  go_wp2_with fail
  refine HX.out.mono ?_
  rintro e w3 ⟨sa, sl, sc, X3, R3, rfl, h3, k3, n3, r3⟩
  have K3 := Lib.hid (K2.out.above k3 (GtX H2.out))
  have kA := (Keep.refl [] w3).alloc (.cells (reqC (agQ 97).m (agQ 97).t (.slice sa sl sc) (agQ 97).cl).toArray 44)
  have bA := Blk.newA w3 (reqC (agQ 97).m (agQ 97).t (.slice sa sl sc) (agQ 97).cl).toArray 44
  have hNA := GtN h3
  generalize hwA : w3.alloc (.cells (reqC (agQ 97).m (agQ 97).t (.slice sa sl sc) (agQ 97).cl).toArray 44) = wA at kA bA
  have HA := Lib.hid (h3.keep0 kA)
  have KA := Lib.hid (K3.out.trans kA)
  have BA := Lib.hid (show Blk wA w3.heap.size 44 (reqC (agQ 97).m (agQ 97).t (.slice sa sl sc) (agQ 97).cl) from bA)
  have NA := Lib.hid hNA
  have HO1 := Lib.hid (reqC_one (agQ 97).m (agQ 97).t (v := .slice sa sl sc) (agQ 97).cl rfl)
  have HX := Lib.hid (guest_Next HA.out (HM.out.keep KA.out (by simp)) KA.out.size hbig ag2_ok)
  rw [agN2] at HX
  unfold NgOut at HX
  dsimp only at HX
  have hlA := BA.out.lt
  clear h3 k3 n3 r3 kA bA hNA H2 K2
  go_wp2_with (first
    | (with_reducible (show wpList _ _ _ ((⟨none, .store _ (.tmp 2) (.tmp 23), _, _, _, none⟩ : Oper) :: _) _ _)
       refine wpList_store_fresh rfl 44 (.tmp 2) (.tmp 23) rfl _ (reqC (agQ 97).m (agQ 97).t (.slice sa sl sc) (agQ 97).cl) (by rfl) (by rfl) req_size (by rfl) HO1.out ?_
       rw [hwA]
       try simp only [Act.put, List.setIfInBounds_toArray, List.set_cons_succ, List.set_cons_zero])
    | fail)
  refine HX.out.mono ?_
  rintro e w4 ⟨sd, sm, sf, X4, R4, rfl, h4, k4, n4, r4⟩
  have K4 := Lib.hid (KA.out.above k4 (GtX HA.out))
  have b4 := k4.blk BA.out NA.out
  have hN4 := GtN' NA.out HA.out h4 n4 hlA
  have kB := (Keep.refl [] w4).alloc (.cells (reqC req0.m req0.t (.slice sd sm sf) req0.cl).toArray 44)
  generalize hwB : w4.alloc (.cells (reqC req0.m req0.t (.slice sd sm sf) req0.cl).toArray 44) = wB at kB
  have HB := Lib.hid (h4.keep0 kB)
  have KB := Lib.hid (K4.out.trans kB)
  have BB := Lib.hid (kB.blk b4 (by simp))
  have NB := Lib.hid hN4
  have HO1 := Lib.hid (reqC_one req0.m req0.t (v := .slice sd sm sf) req0.cl rfl)
  have HP := Lib.hid (guest_Put [111, 110, 101] HB.out (by decide) (by decide))
  rw [agP3] at HP
  clear h4 k4 n4 r4 kB b4 hN4 hwA hlA HA KA BA NA HX K3
  go_wp2_with (first
    | (with_reducible (show wpList _ _ _ ((⟨none, .store _ (.tmp 4) (.tmp 28), _, _, _, none⟩ : Oper) :: _) _ _)
       refine wpList_store_fresh rfl 44 (.tmp 4) (.tmp 28) rfl _ (reqC req0.m req0.t (.slice sd sm sf) req0.cl) (by rfl) (by rfl) req_size (by rfl) HO1.out ?_
       rw [hwB]
       try simp only [Act.put, List.setIfInBounds_toArray, List.set_cons_succ, List.set_cons_zero])
    | fail)
  refine HP.out.mono ?_
  rintro e w5 ⟨rfl, h5, k5⟩
  have K5 := Lib.hid (KB.out.above k5 (GtG HB.out))
  have B5 := Lib.hid (k5.blk BB.out (by have := NB.out; simp at this ⊢; exact this.1))
  have H5 := Lib.hid h5
  have NB5 := NB
  have HD := Lib.hid (guest_Done false h5 (by decide))
  rw [agD4] at HD
  clear h5 k5 HP HB KB BB
  go_wp2_with fail
  refine HD.out.mono ?_
  rintro e w6 ⟨rfl, h6, k6⟩
  have K6 := Lib.hid (K5.out.above k6 (GtG H5.out))
  have B6 := Lib.hid (k6.blk B5.out (by have := NB5.out; simp at this ⊢; exact this.1))
  have H6 := Lib.hid h6
  have HX := Lib.hid (guest_Next h6 (HM.out.keep K6.out (by simp)) K6.out.size hbig ag2_ok)
  rw [agN5] at HX
  unfold NgOut at HX
  dsimp only at HX
  clear h6 k6 HD H5 K5 B5
  go_wp2_with fail
  refine HX.out.mono ?_
  rintro e w7 ⟨sg, sh, si, X7, R7, rfl, h7, k7, n7, r7⟩
  have K7 := Lib.hid (K6.out.above k7 (GtX H6.out))
  have b7 := k7.blk B6.out NB5.out
  have hN7 := GtN' NB5.out H6.out h7 n7 B6.out.lt
  have hNC := GtN h7
  have kC := (Keep.refl [] w7).alloc (.cells (reqC (agQ 98).m (agQ 98).t (.slice sg sh si) (agQ 98).cl).toArray 44)
  have bC := Blk.newA w7 (reqC (agQ 98).m (agQ 98).t (.slice sg sh si) (agQ 98).cl).toArray 44
  generalize hwC : w7.alloc (.cells (reqC (agQ 98).m (agQ 98).t (.slice sg sh si) (agQ 98).cl).toArray 44) = wC at kC bC
  have HC := Lib.hid (h7.keep0 kC)
  have KC := Lib.hid (K7.out.trans kC)
  have BC := Lib.hid (kC.blk b7 (by simp))
  have CC := Lib.hid (show Blk wC w7.heap.size 44 (reqC (agQ 98).m (agQ 98).t (.slice sg sh si) (agQ 98).cl) from bC)
  have NC := Lib.hid hN7
  have NCC := Lib.hid hNC
  have HO1 := Lib.hid (reqC_one (agQ 98).m (agQ 98).t (v := .slice sg sh si) (agQ 98).cl rfl)
  have HP := Lib.hid (guest_Put [116, 119, 111] HC.out (by decide) (by decide))
  rw [agP6] at HP
  clear h7 k7 n7 r7 kC bC b7 hN7 hNC hwB HX K6 H6 B6 NB NB5
  go_wp2_with (first
    | (with_reducible (show wpList _ _ _ ((⟨none, .store _ (.tmp 7) (.tmp 37), _, _, _, none⟩ : Oper) :: _) _ _)
       refine wpList_store_fresh rfl 44 (.tmp 7) (.tmp 37) rfl _ (reqC (agQ 98).m (agQ 98).t (.slice sg sh si) (agQ 98).cl) (by rfl) (by rfl) req_size (by rfl) HO1.out ?_
       rw [hwC]
       try simp only [Act.put, List.setIfInBounds_toArray, List.set_cons_succ, List.set_cons_zero])
    | fail)
  refine HP.out.mono ?_
  rintro e w8 ⟨rfl, h8, k8⟩
  have K8 := Lib.hid (KC.out.above k8 (GtG HC.out))
  have B8 := Lib.hid (k8.blk BC.out (by have := NC.out; simp at this ⊢; exact this.1))
  have C8 := Lib.hid (k8.blk CC.out (by have := NCC.out; simp at this ⊢; exact this.1))
  have H8 := Lib.hid h8
  have HD := Lib.hid (guest_Done true h8 (by decide))
  rw [agD7] at HD
  clear h8 k8 HP HC KC BC CC
  go_wp2_with fail
  refine HD.out.mono ?_
  rintro e w9 ⟨rfl, h9, k9⟩
  have K9 := Lib.hid (K8.out.above k9 (GtG H8.out))
  have B9 := Lib.hid (k9.blk B8.out (by have := NC.out; simp at this ⊢; exact this.1))
  have C9 := Lib.hid (k9.blk C8.out (by have := NCC.out; simp at this ⊢; exact this.1))
  have H9 := Lib.hid h9
  have b1 := B9.out.get (k := 1) (v := .string (S [47, 97])) rfl
  have c1 := C9.out.get (k := 1) (v := .string (S [47, 98])) rfl
  have HCl := Lib.hid (guest_Closing h9)
  have HOp := Lib.hid (guest_Open h9)
  have HDr := Lib.hid (guest_Drain 4 h9 (by decide))
  rw [agR8.1, agR8.2] at HDr
  clear h9 k9 HD H8 K8 B8 C8 B9 C9
  go_wp2_with fail
  refine HCl.out.mono ?_
  rintro e w9' ⟨rfl, rfl⟩
  have q1 : ag7.closing = true := rfl
  go_wp2_with fail
  refine HOp.out.mono ?_
  rintro e w9' ⟨rfl, rfl⟩
  have q2 : (!ag7.closing || !ag7.out.isEmpty) = true := rfl
  clear b1 c1 HCl HOp
  go_wp2_with fail
  refine HDr.out.mono ?_
  rintro e w10 ⟨rfl, h10, k10⟩
  have K10 := Lib.hid (K9.out.above k10 (GtG H9.out))
  have H10 := Lib.hid h10
  have HDr2 := Lib.hid (guest_Drain 99 h10 (by decide))
  rw [agR9.1, agR9.2] at HDr2
  clear h10 k10 HDr
  go_wp2_with fail
  refine HDr2.out.mono ?_
  rintro e w11 ⟨rfl, h11, k11⟩
  have K11 := Lib.hid (K10.out.above k11 (GtG H10.out))
  have H11 := Lib.hid h11
  have HOp := Lib.hid (guest_Open h11)
  have HAn := Lib.hid (guest_Answers h11)
  have HSy := Lib.hid (guest_Say [120] h11 (by decide) (by decide))
  rw [agS9] at HSy
  clear h11 k11 HDr2
  go_wp2_with fail
  refine HOp.out.mono ?_
  rintro e w11' ⟨rfl, rfl⟩
  have q3 : (!ag9.closing || !ag9.out.isEmpty) = false := rfl
  go_wp2_with fail
  refine HAn.out.mono ?_
  rintro e w11' ⟨rfl, rfl⟩
  have q4 : ((ag9.ans : Nat) : Int) = 2 := rfl
  go_wp2_with fail
  refine HSy.out.mono ?_
  rintro e w12 ⟨rfl, _, k12⟩
  have K12 := Lib.hid (K11.out.above k12 (fun x hx => (H11.out.it.lo x hx).1))
  clear k12
  go_wp2_with fail
  go_ret
  exact ⟨rfl, K12.out⟩
end Go.Proofs.YtdmffbefppjllaaDoor

/- An argument that is a slice of ints, read. No conditions. -/
namespace Go.Proofs.YtdmffbefppjllaaDoor
open Go.ChangeShapes Go.WideShapes Go.ChangeAt Go.RowKit

def intC (n : Int) : List Value := [.int .i64 n]
theorem intC_length (n : Int) : (intC n).length = 1 := rfl
theorem int_cells : Tryd.prog.cellsOf 3 = 1 := by kernel_rfl
theorem read_intC {H : Type} {enc : TypeId × Value → H} {w : World} {base : Nat} {spare : Nat → Bool} {held : Bool} (m : Nat) (cs : List Value) (x : DataW H × List MemPlace)
    (h : DataW.trod enc Tryd.prog w base spare held m 3 cs = some x) : ∃ a : Int, cs = intC a ∧ in64 a := by
  obtain ⟨a, c0, _, wa⟩ := DataW.trod_int Tryd.underlying3 h
  exact ⟨a, c0, in64_of wa⟩
end Go.Proofs.YtdmffbefppjllaaDoor

/- Layer 26: the plain laws of GuestTurns, and the guest beside a block of names. No conditions. -/
namespace Go.Proofs.YtdmffbefppjllaaDoor
open Go.RowKit Go.Shelf

theorem hK_ok : (∀ f ∈ hK, goodF f = true) ∧ getN hK nHost = 1 ∧ (frameM hK 4096).n = -1 ∧ (frameM hK 4096).ch = false ∧ (frameM hK 4096).e = 0 ∧ (bodyT hK).length = 9 ∧ closesM hK 1 = false :=
  ⟨List.all_eq_true.1 (by decide +kernel), by decide +kernel, by decide +kernel, by decide +kernel, by decide +kernel, by decide +kernel, by decide +kernel⟩
theorem askG_clean {m t : List UInt8} (g2 : isTok m = true) (g3 : isTgt t = true) : clean (askT m t) := by
  have hm : clean m := fun b hb => ⟨(tchar_clean ((isTok_parts g2).1 b hb)).1, (tchar_clean ((isTok_parts g2).1 b hb)).2.1⟩
  have ht : clean t := by
    intro b hb
    have := (tgt_no g3).1 b hb
    refine ⟨?_, ?_⟩ <;> (rintro rfl; revert this; decide)
  have hp : clean protB := by intro x hx; revert x; decide
  have h32 : clean [32] := by intro x hx; revert x; decide
  unfold askT
  exact clean_app (clean_app (clean_app (clean_app hm h32) ht) h32) hp
/-- one request without a body -/
theorem ask_next {t : List UInt8} (rest : List UInt8) (h : (lnM (askT getB t)).s = 200) (ht : t.length ≤ 100) : nextI { in0 with inp := askL t ++ rest } = ⟨{ in0 with inp := rest }, ⟨getB, t, hK, false⟩, 200⟩ := by
  obtain ⟨r1, r2, r3⟩ := ask_read h
  obtain ⟨k1, k2, k3, k4, k5, k6, k7⟩ := hK_ok
  have hl : (askT getB t).length = t.length + 13 := by unfold askT; simp [protB, getB]
  have hlen : (headT (askT getB t) hK).length ≤ 4096 := by unfold headT; simp only [List.length_append, List.length_cons, List.length_nil]; omega
  have hsp := split_head (askT getB t) hK rest (askG_clean r2 r3) (by intro h0; rw [h0] at hl; simp at hl) (by omega) k1 (by simp [hK]) hlen
  have hH : headM (askL t ++ rest) = ⟨0, true, (headT (askT getB t) hK).length, ⟨getB, t, hK, false⟩, 0, false⟩ := by
    unfold askL headM
    rw [hsp]
    dsimp only
    rw [if_neg (by simp), r1]
    dsimp only
    rw [if_neg (by simp), if_neg (by rw [k2]; omega), if_neg (by rw [k5]; simp), k3, k4, k7]
    rfl
  rw [next_none rfl rfl, show ({ in0 with inp := askL t ++ rest } : InS).inp = askL t ++ rest from rfl, hH]
  dsimp only
  rw [if_neg (by simp), if_pos rfl]
  have hd : headed { in0 with inp := askL t ++ rest } ⟨0, true, (headT (askT getB t) hK).length, ⟨getB, t, hK, false⟩, 0, false⟩ = ⟨rest, (headT (askT getB t) hK).length, some ⟨getB, t, hK, false⟩, 0, none, 0⟩ := by
    refine inS_ext ?_ rfl rfl rfl rfl rfl
    show (askL t ++ rest).drop (headT (askT getB t) hK).length = rest
    unfold askL
    rw [List.drop_left]
  rw [hd, tail_none _ rfl (Nat.zero_le _)]
  rfl
def nm4 : List (List UInt8) := [[47, 97], [47, 98], [47, 99], [47, 100, 100]]
def nmC : List Value := [.string (S [47, 97]), .string (S [47, 98]), .string (S [47, 99]), .string (S [47, 100, 100])]
def nmT (T : List Int) : List (List UInt8) := T.map fun t => nm4.getD ((IntKind.u64.wrap t).tmod 4).toNat []
def flatA (L : List (List UInt8)) : List UInt8 := L.flatMap askL
set_option maxRecDepth 100000 in
set_option maxHeartbeats 2000000 in
theorem nm4_ok {p : Nat} (h : p < 4) : (lnM (askT getB (nm4.getD p []))).s = 200 ∧ (nm4.getD p []).length ≤ 3 ∧ nmC[p]? = some (.string (S (nm4.getD p []))) ∧ (askL (nm4.getD p [])).length ≤ 30 := by
  have key : ∀ p : Fin 4, (lnM (askT getB (nm4.getD p.1 []))).s = 200 ∧ (nm4.getD p.1 []).length ≤ 3 ∧ (askL (nm4.getD p.1 [])).length ≤ 30 := by decide +kernel
  obtain ⟨h1, h2, h3⟩ := key ⟨p, h⟩
  refine ⟨h1, h2, ?_, h3⟩
  match p, h with
  | 0, _ => rfl
  | 1, _ => rfl
  | 2, _ => rfl
  | 3, _ => rfl
theorem nmT_at {T : List Int} {k p : Nat} {t : Int} (h : T[k]? = some t) (hp : (IntKind.u64.wrap t).tmod 4 = (p : Int)) : (nmT T)[k]? = some (nm4.getD p []) := by
  unfold nmT
  rw [List.getElem?_map, h]
  simp [hp]
theorem arr4_size : (Tryd.prog.info? 50).map (·.size) = some 4 := by kernel_rfl
def gtG (inp : List UInt8) (b c : Bool) (n : Nat) : Gs := ⟨{ in0 with inp := inp }, [], b, c, n⟩
theorem gtI_ok {l : List UInt8} (h : l.length ≤ 16384) : ({ in0 with inp := l } : InS).ok := ⟨by simpa [in0] using h, by simp [in0], by simp [in0], by simp [in0], by simp [in0], by simp [in0]⟩
theorem gtN_more {l : List UInt8} {t : List UInt8} (rest : List UInt8) (n : Nat) (h : (lnM (askT getB t)).s = 200) (ht : t.length ≤ 100) (he : l = askL t ++ rest) : nextG (gtG l false false n) = ⟨gtG rest true false n, ⟨getB, t, hK, false⟩, 200⟩ := by
  subst he
  unfold nextG gtG
  rw [if_neg (by simp), ask_next rest h ht]
  rfl
theorem gtN_busy (l : List UInt8) (b c : Bool) (n : Nat) (h : (b || c) = true) : nextG (gtG l b c n) = ⟨gtG l b c n, req0, 0⟩ := by
  unfold nextG
  rw [if_pos (show ((gtG l b c n).busy || (gtG l b c n).closing) = true from h)]
theorem gtN_none (n : Nat) : nextG (gtG [] false false n) = ⟨gtG [] false false n, req0, 0⟩ := by
  have h : nextI { in0 with inp := [] } = ⟨in0, req0, 0⟩ := by kernel_rfl
  unfold nextG gtG
  rw [if_neg (by simp), h]
  rfl
theorem gtS {l s : List UInt8} (n : Nat) (h : l.length + s.length ≤ 16384) : sayG (gtG l false false n) s = (gtG (l ++ s) false false n, 0) := by
  have hA : inAdd { in0 with inp := l } s = ({ in0 with inp := l ++ s }, 0) := by
    unfold inAdd
    have : ({ in0 with inp := l } : InS).left = l.length := rfl
    rw [if_neg (by simp [in0]), if_neg (by rw [this]; omega)]
  unfold sayG gtG
  rw [if_neg (by simp), hA]
  rfl
theorem flat_len {T : List Int} (h : T.length ≤ 30) : ∀ k, (flatA ((nmT T).take k)).length ≤ 30 * k ∧ (flatA ((nmT T).drop k)).length ≤ 900 := by
  have h1 : ∀ L : List (List UInt8), (∀ x ∈ L, (askL x).length ≤ 30) → (flatA L).length ≤ 30 * L.length := by
    intro L
    induction L with
    | nil => intro _; simp [flatA]
    | cons x L ih =>
      intro hx
      have h2 := ih (fun y hy => hx y (by simp [hy]))
      have h3 := hx x (by simp)
      unfold flatA at h2 ⊢
      simp only [List.flatMap_cons, List.length_append, List.length_cons]
      omega
  have h0 : ∀ x ∈ nmT T, (askL x).length ≤ 30 := by
    intro x hx
    unfold nmT at hx
    obtain ⟨t, _, rfl⟩ := List.mem_map.1 hx
    obtain ⟨p, hp, ep⟩ := u64_mod t 4 (by omega)
    have ep' : (IntKind.u64.wrap t).tmod 4 = (p : Int) := ep
    rw [ep']
    simpa using (nm4_ok hp).2.2.2
  intro k
  have hl : (nmT T).length = T.length := by simp [nmT]
  constructor
  · refine Nat.le_trans (h1 _ (fun x hx => h0 x (List.mem_of_mem_take hx))) ?_
    rw [List.length_take]; omega
  · refine Nat.le_trans (h1 _ (fun x hx => h0 x (List.mem_of_mem_drop hx))) ?_
    rw [List.length_drop]; omega
theorem flat_snoc {T : List Int} {k : Nat} {x : List UInt8} (h : (nmT T)[k]? = some x) : flatA ((nmT T).take (k + 1)) = flatA ((nmT T).take k) ++ askL x ∧ flatA ((nmT T).drop k) = askL x ++ flatA ((nmT T).drop (k + 1)) := by
  constructor
  · rw [List.take_add_one, h]; unfold flatA; simp
  · obtain ⟨hl, hx⟩ := List.getElem?_eq_some_iff.1 h
    rw [List.drop_eq_getElem_cons hl, hx]; unfold flatA; simp
/-- the guest and the names' block, kept since w0 -/
structure Tn (w0 w : World) (g p nb : Nat) (X R : List Nat) (G : Gs) : Prop where
  gt : Gt w0.heap.size w g p X R G
  k : Keep [] w0 w
  nm : Blk w nb 50 nmC
  nx : nb ∉ g :: X
theorem Tn.step {w0 w w' : World} {g p nb : Nat} {X R X' R' S : List Nat} {G G' : Gs} (h : Tn w0 w g p nb X R G) (h' : Gt w0.heap.size w' g p X' R' G') (k : Keep S w w') (hS : ∀ x ∈ S, x ∈ g :: X) (hn : ∀ x ∈ X', x ∈ X ∨ w.heap.size ≤ x) : Tn w0 w' g p nb X' R' G' :=
  ⟨h', h.k.above k (fun x hx => GtX h.gt x (hS x hx)), k.blk h.nm (fun hh => h.nx (hS _ hh)), GtN' h.nx h.gt h' hn h.nm.lt⟩
theorem Tn.keep0 {w0 w w' : World} {g p nb : Nat} {X R : List Nat} {G : Gs} (h : Tn w0 w g p nb X R G) (k : Keep [] w w') : Tn w0 w' g p nb X R G :=
  ⟨h.gt.keep0 k, h.k.trans k, k.blk h.nm (by simp), h.nx⟩
theorem Tn.name {w0 w : World} {g p nb : Nat} {X R : List Nat} {G : Gs} (h : Tn w0 w g p nb X R G) {q : Nat} (hq : q < 4) : w.cell? ⟨nb, q, none⟩ = some (.string (S (nm4.getD q []))) := h.nm.get (nm4_ok hq).2.2.1
theorem Tn.say {w0 w : World} {g p nb : Nat} {X R : List Nat} {G G' : Gs} {n : Int} (s : List UInt8) (h : Tn w0 w g p nb X R G) (hl : G.I.inp.length + G.I.held ≤ 1048576) (hs : s.length ≤ 1048576) (he : sayG G s = (G', n)) :
    Calls Tryd.prog 16 #[.pointer (some ⟨g, 0, none⟩), .string (S s)] w fun e w' => e = .returned (.int .i64 n) ∧ Tn w0 w' g p nb X R G' := by
  have h1 := guest_Say s h.gt hl hs
  rw [he] at h1
  exact h1.mono fun e w' ⟨h2, h3, h4⟩ => ⟨h2, h.step h3 h4 (fun x hx => List.mem_cons_of_mem _ hx) (fun x hx => .inl hx)⟩
theorem Tn.put {w0 w : World} {g p nb : Nat} {X R : List Nat} {G G' : Gs} {n : Int} (s : List UInt8) (h : Tn w0 w g p nb X R G) (hl : G.out.length ≤ 1048576) (hs : s.length ≤ 1048576) (he : putG G s = (G', n)) :
    Calls Tryd.prog 20 #[.pointer (some ⟨g, 0, none⟩), .string (S s)] w fun e w' => e = .returned (.int .i64 n) ∧ Tn w0 w' g p nb X R G' := by
  have h1 := guest_Put s h.gt hl hs
  rw [he] at h1
  exact h1.mono fun e w' ⟨h2, h3, h4⟩ => ⟨h2, h.step h3 h4 (fun x hx => by simpa using Or.inl (by simpa using hx)) (fun x hx => .inl hx)⟩
theorem Tn.done {w0 w : World} {g p nb : Nat} {X R : List Nat} {G G' : Gs} (b : Bool) (h : Tn w0 w g p nb X R G) (hl : G.ans ≤ 1048576) (he : doneG G b = G') :
    Calls Tryd.prog 24 #[.pointer (some ⟨g, 0, none⟩), .bool b] w fun e w' => e = .returned (.tuple #[]) ∧ Tn w0 w' g p nb X R G' := by
  have h1 := guest_Done b h.gt hl
  rw [he] at h1
  exact h1.mono fun e w' ⟨h2, h3, h4⟩ => ⟨h2, h.step h3 h4 (fun x hx => by simpa using Or.inl (by simpa using hx)) (fun x hx => .inl hx)⟩
theorem Tn.abort {w0 w : World} {g p nb : Nat} {X R : List Nat} {G G' : Gs} (h : Tn w0 w g p nb X R G) (he : abortG G = G') :
    Calls Tryd.prog 23 #[.pointer (some ⟨g, 0, none⟩)] w fun e w' => e = .returned (.tuple #[]) ∧ Tn w0 w' g p nb X R G' := by
  have h1 := guest_Abort h.gt
  rw [he] at h1
  exact h1.mono fun e w' ⟨h2, h3, h4⟩ => ⟨h2, h.step h3 h4 (fun x hx => by simpa using Or.inl (by simpa using hx)) (fun x hx => .inl hx)⟩
/-- Next: a block that is none of the guest's keeps what it holds -/
theorem Tn.next {w0 w : World} {g p nb : Nat} {X R : List Nat} {G G' : Gs} {q : Req} {s : Int} (hM : ML w0) (hb : 0 < w0.heap.size) (h : Tn w0 w g p nb X R G) (hok : G.I.ok) (he : nextG G = ⟨G', q, s⟩) :
    Calls Tryd.prog 18 #[.pointer (some ⟨g, 0, none⟩)] w fun e w' => ∃ a l c X' R', e = .returned (.tuple #[.agg (reqC q.m q.t (.slice a l c) q.cl).toArray, .int .i64 s]) ∧ Tn w0 w' g p nb X' R' G' ∧ ∀ b T xs, b ∉ g :: X → Blk w b T xs → Blk w' b T xs ∧ b ∉ g :: X' := by
  have h1 := guest_Next h.gt (hM.keep h.k (by simp)) h.k.size hb hok
  rw [he] at h1
  refine h1.mono ?_
  rintro e w' ⟨a, l, c, X', R', h2, h3, h4, h5, _⟩
  exact ⟨a, l, c, X', R', h2, h.step h3 h4 (fun x hx => hx) h5, fun b T xs hb' hB => ⟨h4.blk hB hb', GtN' hb' h.gt h3 h5 hB.lt⟩⟩
/-- a request laid into a new block -/
theorem Tn.alloc {w0 w : World} {g p nb : Nat} {X R : List Nat} {G : Gs} (h : Tn w0 w g p nb X R G) (c : Array Value) (T : TypeId) : Tn w0 (w.alloc (.cells c T)) g p nb X R G ∧ Blk (w.alloc (.cells c T)) w.heap.size T c.toList ∧ w.heap.size ∉ g :: X :=
  ⟨h.keep0 ((Keep.refl [] w).alloc (.cells c T)), Blk.newA w c T, GtN h.gt⟩
end Go.Proofs.YtdmffbefppjllaaDoor

/- Layer 26: the statement GuestTurns. No conditions. -/
namespace Go.Proofs.YtdmffbefppjllaaDoor
open Go.RowKit Go.Shelf

theorem Tn.busyN {w0 w : World} {g p nb : Nat} {X R : List Nat} {G : Gs} {b : Bool} (h : Tn w0 w g p nb X R G) (hb : G.busy = b) (n : Nat) : Calls Tryd.prog 22 #[.pointer (some ⟨g, 0, none⟩)] (w.drewN n) fun e w' => e = .returned (.bool b) ∧ w' = w.drewN n := by
  have h1 := guest_Busy (h.keep0 ((Keep.refl [] w).drewN n)).gt
  rw [hb] at h1
  exact h1.mono fun e w' ⟨h2, h3⟩ => ⟨h2, h3.symm⟩
theorem Tn.openG {w0 w : World} {g p nb : Nat} {X R : List Nat} {G : Gs} {b : Bool} (h : Tn w0 w g p nb X R G) (hb : (!G.closing || !G.out.isEmpty) = b) : Calls Tryd.prog 26 #[.pointer (some ⟨g, 0, none⟩)] w fun e w' => e = .returned (.bool b) ∧ w = w' := by
  have h1 := guest_Open h.gt
  rw [hb] at h1
  exact h1
theorem Tn.closingG {w0 w : World} {g p nb : Nat} {X R : List Nat} {G : Gs} {b : Bool} (h : Tn w0 w g p nb X R G) (hb : G.closing = b) : Calls Tryd.prog 25 #[.pointer (some ⟨g, 0, none⟩)] w fun e w' => e = .returned (.bool b) ∧ w = w' := by
  have h1 := guest_Closing h.gt
  rw [hb] at h1
  exact h1
theorem Tn.answers {w0 w : World} {g p nb : Nat} {X R : List Nat} {G : Gs} {n : Nat} (h : Tn w0 w g p nb X R G) (hb : G.ans = n) : Calls Tryd.prog 27 #[.pointer (some ⟨g, 0, none⟩)] w fun e w' => e = .returned (.int .i64 (n : Nat)) ∧ w = w' := by
  have h1 := guest_Answers h.gt
  rw [hb] at h1
  exact h1
theorem nm_drop (T : List Int) : flatA ((nmT T).drop T.length) = [] := by
  rw [List.drop_of_length_le (by simp [nmT])]; rfl
theorem nm_take (T : List Int) : (nmT T).take T.length = (nmT T).drop 0 := by
  unfold nmT; rw [List.take_of_length_le (by simp)]; rfl
set_option maxRecDepth 100000 in
set_option maxHeartbeats 16000000 in
theorem guestTurns_walk (va : Value) (T : List Int) (en : Int) (ab : Bool) (w : World) (hm : ML w) (ha : Sl intC 1 w va T) (_ : ∀ x ∈ T, in64 x) (_ : in64 en) :
    Calls Tryd.prog 6 #[va, .int .i64 en, .bool ab] w fun e w' => e = .returned (.bool true) ∧ Keep [] w w' := by
  obtain ⟨aa, ca, rfl, hal⟩ := ha.shape
  have hal' : T.length ≤ 9223372036854775807 := hal
  have HT := Lib.hid ha
  have HAw := Lib.hid (guest_awake w hm)
  have hbig := hm.lt
  have HM := Lib.hid hm
  have HN := Lib.hid (fun w' (k : Keep [] w w') => guest_New w.heap.size w' k.size)
  by_cases hl : 30 < T.length
  · have q : decide ((T.length : Int) > 30) = true := by simp; omega
    clear hl hm ha
    go_enter Tryd.func6, Tryd.ntmps6
    go_wp2_with fail
    refine HAw.out.mono ?_
    rintro e w1 ⟨rfl, k1⟩
    have K1 := Lib.hid k1
    clear k1
    go_wp2_with fail
    go_ret
    exact ⟨rfl, K1.out⟩
  have q : decide ((T.length : Int) > 30) = false := by simp; omega
  have hl30 : T.length ≤ 30 := by omega
  have HFL := Lib.hid (flat_len hl30)
  have HAs := Lib.hid (fun (t : List UInt8) (ht : t.length ≤ 3) w' => law26_ask t w' (by omega))
  obtain ⟨st, hst, est⟩ := u64_mod en 31 (by omega)
  replace est : (IntKind.u64.wrap en).tmod 31 = (st : Int) := est
  clear hl hm ha
  go_enter Tryd.func6, Tryd.ntmps6
  go_wp2_with fail
  refine HAw.out.mono ?_
  rintro e w1 ⟨rfl, k1⟩
  have K1 := Lib.hid k1
  clear k1
  go_wp2_with fail
  refine (HN.out _ K1.out).mono ?_
  rintro e w2 ⟨g, p, rfl, hg, h2, k2⟩
  have kA := (Keep.refl [] w2).alloc (.cells nmC.toArray 50)
  have bA := Blk.newA w2 nmC.toArray 50
  have hNA := GtN h2
  have hgp : g ≠ p := fun hh => h2.gx.1 (by simp [hh])
  generalize hwA : w2.alloc (.cells nmC.toArray 50) = wA at kA bA
  generalize hnb : w2.heap.size = nb at *
  have K0A := Lib.hid ((K1.out.trans k2).trans kA)
  have HA := Lib.hid (show Tn w wA g p nb [p] [] (gtG (flatA ((nmT T).take 0)) false false 0) from ⟨h2.keep0 kA, K0A.out, bA, hNA⟩)
  have HO1 : Hid (∀ v ∈ nmC, v.oneCell' = true) := Lib.hid (by intro v hv; simp [nmC] at hv; rcases hv with rfl | rfl | rfl | rfl <;> rfl)
  clear kA bA hNA h2 k2 HN HAw K1 K0A
  go_wp2_with (first
    | (with_reducible (show wpList _ _ _ ((⟨none, .store _ (.tmp 8) (.tmp 29), _, _, _, none⟩ : Oper) :: _) _ _)
       refine wpList_store_fresh rfl 50 (.tmp 8) (.tmp 29) rfl _ nmC (by rw [hnb]; rfl) (by rfl) arr4_size (by rfl) HO1.out ?_
       rw [hwA]
       try simp only [Act.put, List.setIfInBounds_toArray, List.set_cons_succ, List.set_cons_zero])
    | fail)
  clear hwA HO1 hnb
  go_loopg [9] T.length (fun gg iv wr => ∃ k : Nat, iv = .int .i64 (k : Nat) ∧ k ≤ T.length ∧ gg = T.length - k ∧ Hid (Tn w wr g p nb [p] [] (gtG (flatA ((nmT T).take k)) false false 0)))
  case atStart => exact ⟨0, rfl, by omega, by omega, HA⟩
  case round =>
    obtain ⟨k, rfl, hk, hgg, HG⟩ := hrel
    have wk := IntWalk.i64_in ((k : Int) + 1) (by omega)
    by_cases hlt : k < T.length
    · obtain ⟨t, ht⟩ : ∃ t, T[k]? = some t := ⟨_, List.getElem?_eq_getElem hlt⟩
      obtain ⟨q, hq, eq⟩ := u64_mod t 4 (by omega)
      replace eq : (IntKind.u64.wrap t).tmod 4 = (q : Int) := eq
      obtain ⟨b2, o2, c2, e2, l2, m2, y1⟩ := HT.out.cell ht
      simp only [Value.slice.injEq] at e2
      obtain ⟨rfl, _, rfl⟩ := e2
      have t0 := y1 0 (by omega)
      simp only [intC, List.getElem?_cons_zero, Nat.add_zero, Nat.mul_one] at t0
      have tr := HG.out.k.load t0
      have nr := HG.out.name hq
      obtain ⟨n1, n2, n3, n4⟩ := nm4_ok hq
      have hx := nmT_at ht eq
      have hfl := (HFL.out k).1
      have HS := Lib.hid (HG.out.say (askL (nm4.getD q [])) (by show (flatA ((nmT T).take k)).length + 0 ≤ 1048576; omega) (by omega) (gtS 0 (by omega)))
      rw [← (flat_snoc hx).1] at HS
      have HAk := Lib.hid (HAs.out (nm4.getD q []) n2)
      clear n1 n2 n3 n4 hx hfl t0 y1 ht l2 m2
      go_wp2_with fail
      refine (HAk.out _).mono ?_
      rintro e w3 ⟨rfl, rfl⟩
      go_wp2_with fail
      refine HS.out.mono ?_
      rintro e w4 ⟨rfl, h4⟩
      go_wp2_with fail
      go_roundg (T.length - (k + 1))
      case measure => omega
      case rel => exact ⟨k + 1, by go_num, by omega, rfl, Lib.hid h4⟩
    · have hkl : k = T.length := by omega
      subst hkl
      have HG0 : Hid (Tn w wr g p nb [p] [] (gtG (flatA ((nmT T).drop 0)) false false 0)) := by
        rw [← nm_take T]; exact HG
      have wst := IntWalk.i64_in (st : Int) (by omega)
      clear HG hlt hk HAs wk
      go_wp2_with fail
      go_loopg [11] T.length (fun gg iv wr => ∃ (k : Nat) (X R : List Nat), iv = .int .i64 (k : Nat) ∧ k ≤ T.length ∧ gg = T.length - k ∧ Hid (Tn w wr g p nb X R (gtG (flatA ((nmT T).drop k)) false false k)))
      case atStart => exact ⟨0, [p], [], rfl, by omega, by omega, HG0⟩
      case round =>
        obtain ⟨k, X, R, rfl, hk, hgg, HG⟩ := hrel
        have wk := IntWalk.i64_in ((k : Int) + 1) (by omega)
        have hfl := (HFL.out k).2
        by_cases hlt : k < T.length
        · obtain ⟨t, ht⟩ : ∃ t, T[k]? = some t := ⟨_, List.getElem?_eq_getElem hlt⟩
          obtain ⟨q, hq, eq⟩ := u64_mod t 4 (by omega)
          replace eq : (IntKind.u64.wrap t).tmod 4 = (q : Int) := eq
          obtain ⟨n1, n2, n3, n4⟩ := nm4_ok hq
          have hx := nmT_at ht eq
          have HX := Lib.hid (HG.out.next HM.out hbig (gtI_ok (by omega)) (gtN_more (flatA ((nmT T).drop (k + 1))) k n1 (by omega) (flat_snoc hx).2))
          obtain ⟨b2, o2, c2, e2, l2, m2, y1⟩ := HT.out.cell ht
          simp only [Value.slice.injEq] at e2
          obtain ⟨rfl, _, rfl⟩ := e2
          have t0 := y1 0 (by omega)
          simp only [intC, List.getElem?_cons_zero, Nat.add_zero, Nat.mul_one] at t0
          have HC := Lib.hid (fun w' (k : Keep [] w w') => k.load t0)
          clear n1 n2 n3 n4 hx t0 y1 ht l2 m2 HG
          generalize hxe : nm4.getD q [] = x at HX
          go_wp2_with fail
          refine HX.out.mono ?_
          rintro e w4 ⟨sa, sl, sc, X1, R1, rfl, h4, _⟩
          have hA4 := h4.alloc (reqC getB x (.slice sa sl sc) false).toArray 44
          generalize hwA : w4.alloc (.cells (reqC getB x (.slice sa sl sc) false).toArray 44) = wA at hA4
          have HA4 := Lib.hid hA4
          have HN2 := Lib.hid (hA4.1.next HM.out hbig (gtI_ok (by have := (HFL.out (k + 1)).2; omega)) (gtN_busy (flatA ((nmT T).drop (k + 1))) true false k rfl))
          have HO1 := Lib.hid (reqC_one getB x (v := .slice sa sl sc) false rfl)
          clear h4 hA4 HX
          go_wp2_with (first
            | (with_reducible (show wpList _ _ _ ((⟨none, .store _ (.tmp 12) (.tmp 61), _, _, _, none⟩ : Oper) :: _) _ _)
               refine wpList_store_fresh rfl 44 (.tmp 12) (.tmp 61) rfl _ (reqC getB x (.slice sa sl sc) false) (by rfl) (by rfl) req_size (by rfl) HO1.out ?_
               rw [hwA]
               try simp only [Act.put, List.setIfInBounds_toArray, List.set_cons_succ, List.set_cons_zero])
            | fail)
          refine HN2.out.mono ?_
          clear hwA HO1
          rintro e w5 ⟨sa2, sl2, sc2, X2, R2, rfl, h5, hB5⟩
          have hb1 := (hB5 _ _ _ HA4.out.2.2 HA4.out.2.1).1
          have hA6 := h5.alloc (reqC [] [] (.slice sa2 sl2 sc2) false).toArray 44
          generalize hwB : w5.alloc (.cells (reqC [] [] (.slice sa2 sl2 sc2) false).toArray 44) = wB at hA6
          have c1 : wB.cell? ⟨w4.heap.size, 1, none⟩ = some (.string (S x)) := by
            have kk := (Keep.refl [] w5).alloc (.cells (reqC [] [] (.slice sa2 sl2 sc2) false).toArray 44)
            rw [hwB] at kk
            exact kk.load (hb1.get (k := 1) rfl)
          have c2 : wB.cell? ⟨w5.heap.size, 0, none⟩ = some (.string ⟨#[]⟩) := hA6.2.1.get (k := 0) rfl
          have c3 : wB.cell? ⟨nb, q, none⟩ = some (.string (S x)) := by rw [← hxe]; exact hA6.1.name hq
          have c4 := HC.out _ hA6.1.k
          have H6 := Lib.hid hA6.1
          have HO2 := Lib.hid (reqC_one [] [] (v := .slice sa2 sl2 sc2) false rfl)
          have HBu := Lib.hid (hA6.1.busyN rfl)
          clear h5 hB5 hb1 hA6 HN2 HA4 HC
          go_wp2_with (first
            | (with_reducible (show wpList _ _ _ ((⟨none, .store _ (.tmp 14) (.tmp 66), _, _, _, none⟩ : Oper) :: _) _ _)
               refine wpList_store_fresh rfl 44 (.tmp 14) (.tmp 66) rfl _ (reqC [] [] (.slice sa2 sl2 sc2) false) (by rfl) (by rfl) req_size (by rfl) HO2.out ?_
               rw [hwB]
               try simp only [Act.put, List.setIfInBounds_toArray, List.set_cons_succ, List.set_cons_zero])
            | fail)
          clear hwB HO2
          go_quiet ((go_at_call 22; exact Calls.quiet_of_same (HBu.out _)))
          clear c1 c2 c3 c4 HBu
          by_cases hks : k = st
          · subst hks
            have qe : ((k : Int) == (k : Int)) = true := by simp
            cases ab with
            | true =>
              have HD := Lib.hid (fun m => (H6.out.keep0 ((Keep.refl [] wB).drewN m)).abort (G' := gtG (flatA ((nmT T).drop (k + 1))) false true k) rfl)
              go_wp2_with fail
              refine (HD.out _).mono ?_
              rintro e w7 ⟨rfl, h7⟩
              have HN := Lib.hid (h7.next HM.out hbig (gtI_ok (by have := (HFL.out (k + 1)).2; omega)) (gtN_busy (flatA ((nmT T).drop (k + 1))) false true _ rfl))
              clear h7 H6 HD
              go_wp2_with fail
              refine HN.out.mono ?_
              clear HN
              rintro e w8 ⟨sa3, sl3, sc3, X3, R3, rfl, h8, _⟩
              have hA8 := h8.alloc (reqC [] [] (.slice sa3 sl3 sc3) false).toArray 44
              generalize hwC : w8.alloc (.cells (reqC [] [] (.slice sa3 sl3 sc3) false).toArray 44) = wC at hA8
              have HCl := Lib.hid (hA8.1.closingG rfl)
              have HS := Lib.hid (hA8.1.say [120] (by have := (HFL.out (k + 1)).2; show (flatA ((nmT T).drop (k + 1))).length + 0 ≤ 1048576; omega) (by decide) rfl)
              have HO3 := Lib.hid (reqC_one [] [] (v := .slice sa3 sl3 sc3) false rfl)
              clear h8 hA8
              go_wp2_with (first
                | (with_reducible (show wpList _ _ _ ((⟨none, .store _ (.tmp 16) (.tmp 116), _, _, _, none⟩ : Oper) :: _) _ _)
                   refine wpList_store_fresh rfl 44 (.tmp 16) (.tmp 116) rfl _ (reqC [] [] (.slice sa3 sl3 sc3) false) (by rfl) (by rfl) req_size (by rfl) HO3.out ?_
                   rw [hwC]
                   try simp only [Act.put, List.setIfInBounds_toArray, List.set_cons_succ, List.set_cons_zero])
                | fail)
              clear hwC HO3
              refine HCl.out.mono ?_
              rintro e w9 ⟨rfl, rfl⟩
              clear HCl
              go_wp2_with fail
              refine HS.out.mono ?_
              clear HS
              rintro e w10 ⟨rfl, h10⟩
              have HOp := Lib.hid (h10.openG rfl)
              have HPt := Lib.hid (h10.put [120] (by show (0 : Nat) ≤ 1048576; omega) (by decide) rfl)
              clear h10
              go_wp2_with fail
              refine HOp.out.mono ?_
              rintro e w11 ⟨rfl, rfl⟩
              clear HOp
              go_wp2_with fail
              refine HPt.out.mono ?_
              clear HPt
              rintro e w12 ⟨rfl, h12⟩
              have H12 := Lib.hid h12
              clear h12
              go_wp2_with fail
              go_ret
              exact ⟨rfl, H12.out.k⟩
            | false =>
              have HD := Lib.hid (fun m => (H6.out.keep0 ((Keep.refl [] wB).drewN m)).done true (G' := gtG (flatA ((nmT T).drop (k + 1))) false true (k + 1)) (by show k ≤ 1048576; omega) rfl)
              go_wp2_with fail
              refine (HD.out _).mono ?_
              rintro e w7 ⟨rfl, h7⟩
              have HN := Lib.hid (h7.next HM.out hbig (gtI_ok (by have := (HFL.out (k + 1)).2; omega)) (gtN_busy (flatA ((nmT T).drop (k + 1))) false true _ rfl))
              clear h7 H6 HD
              go_wp2_with fail
              refine HN.out.mono ?_
              clear HN
              rintro e w8 ⟨sa3, sl3, sc3, X3, R3, rfl, h8, _⟩
              have hA8 := h8.alloc (reqC [] [] (.slice sa3 sl3 sc3) false).toArray 44
              generalize hwC : w8.alloc (.cells (reqC [] [] (.slice sa3 sl3 sc3) false).toArray 44) = wC at hA8
              have HCl := Lib.hid (hA8.1.closingG rfl)
              have HS := Lib.hid (hA8.1.say [120] (by have := (HFL.out (k + 1)).2; show (flatA ((nmT T).drop (k + 1))).length + 0 ≤ 1048576; omega) (by decide) rfl)
              have HO3 := Lib.hid (reqC_one [] [] (v := .slice sa3 sl3 sc3) false rfl)
              clear h8 hA8
              go_wp2_with (first
                | (with_reducible (show wpList _ _ _ ((⟨none, .store _ (.tmp 16) (.tmp 116), _, _, _, none⟩ : Oper) :: _) _ _)
                   refine wpList_store_fresh rfl 44 (.tmp 16) (.tmp 116) rfl _ (reqC [] [] (.slice sa3 sl3 sc3) false) (by rfl) (by rfl) req_size (by rfl) HO3.out ?_
                   rw [hwC]
                   try simp only [Act.put, List.setIfInBounds_toArray, List.set_cons_succ, List.set_cons_zero])
                | fail)
              clear hwC HO3
              refine HCl.out.mono ?_
              rintro e w9 ⟨rfl, rfl⟩
              clear HCl
              go_wp2_with fail
              refine HS.out.mono ?_
              clear HS
              rintro e w10 ⟨rfl, h10⟩
              have HOp := Lib.hid (h10.openG rfl)
              have HPt := Lib.hid (h10.put [120] (by show (0 : Nat) ≤ 1048576; omega) (by decide) rfl)
              clear h10
              go_wp2_with fail
              refine HOp.out.mono ?_
              rintro e w11 ⟨rfl, rfl⟩
              clear HOp
              go_wp2_with fail
              refine HPt.out.mono ?_
              clear HPt
              rintro e w12 ⟨rfl, h12⟩
              have H12 := Lib.hid h12
              clear h12
              go_wp2_with fail
              go_ret
              exact ⟨rfl, H12.out.k⟩
          · have qe : ((k : Int) == (st : Int)) = false := by simp; omega
            have HD := Lib.hid (fun m => (H6.out.keep0 ((Keep.refl [] wB).drewN m)).done false (G' := gtG (flatA ((nmT T).drop (k + 1))) false false (k + 1)) (by show k ≤ 1048576; omega) rfl)
            go_wp2_with fail
            refine (HD.out _).mono ?_
            rintro e w7 ⟨rfl, h7⟩
            go_wp2_with fail
            go_roundg (T.length - (k + 1))
            case measure => omega
            case rel => exact ⟨k + 1, X2, R2, by go_num, by omega, rfl, Lib.hid h7⟩
        · have hkl : k = T.length := by omega
          subst hkl
          rw [nm_drop] at HG
          have HN := Lib.hid (HG.out.next HM.out hbig (gtI_ok (by simp)) (gtN_none T.length))
          clear HG hlt hk hfl hgg
          go_wp2_with fail
          refine HN.out.mono ?_
          clear HN
          rintro e w4 ⟨sa, sl, sc, X1, R1, rfl, h4, _⟩
          have hA4 := h4.alloc (reqC [] [] (.slice sa sl sc) false).toArray 44
          generalize hwA : w4.alloc (.cells (reqC [] [] (.slice sa sl sc) false).toArray 44) = wA at hA4
          have HO1 := Lib.hid (reqC_one [] [] (v := .slice sa sl sc) false rfl)
          have H4 := Lib.hid hA4.1
          clear h4 hA4
          go_wp2_with (first
            | (with_reducible (show wpList _ _ _ ((⟨none, .store _ (.tmp 18) (.tmp 142), _, _, _, none⟩ : Oper) :: _) _ _)
               refine wpList_store_fresh rfl 44 (.tmp 18) (.tmp 142) rfl _ (reqC [] [] (.slice sa sl sc) false) (by rfl) (by rfl) req_size (by rfl) HO1.out ?_
               rw [hwA]
               try simp only [Act.put, List.setIfInBounds_toArray, List.set_cons_succ, List.set_cons_zero])
            | fail)
          clear hwA HO1
          refine (nilG_Done _ _).mono ?_
          rintro e w5 ⟨rfl, rfl⟩
          go_wp2_with fail
          refine (nilG_Abort _).mono ?_
          rintro e w5 ⟨rfl, rfl⟩
          go_wp2_with fail
          refine (nilG_Next _).mono ?_
          rintro e w6 ⟨rfl, k6⟩
          have hA6 := (H4.out.keep0 k6).alloc reqZ.toArray 44
          generalize hwB : w6.alloc (.cells reqZ.toArray 44) = wB at hA6
          have HO2 := Lib.hid (show ∀ v ∈ reqZ, v.oneCell' = true from reqC_one [] [] (v := .slice none 0 0) false rfl)
          have H6 := Lib.hid hA6.1
          have HAn := Lib.hid (hA6.1.answers rfl)
          clear k6 hA6 H4
          go_wp2_with (first
            | (with_reducible (show wpList _ _ _ ((⟨none, .store _ (.tmp 21) (.tmp 151), _, _, _, none⟩ : Oper) :: _) _ _)
               refine wpList_store_fresh rfl 44 (.tmp 21) (.tmp 151) rfl _ reqZ (by rfl) (by rfl) req_size (by rfl) HO2.out ?_
               rw [hwB]
               try simp only [Act.put, List.setIfInBounds_toArray, List.set_cons_succ, List.set_cons_zero])
            | fail)
          clear hwB HO2
          refine HAn.out.mono ?_
          clear HAn
          rintro e w7 ⟨rfl, rfl⟩
          go_wp2_with fail
          refine (nilG_Say [120] _).mono ?_
          rintro e w8 ⟨rfl, rfl⟩
          go_wp2_with fail
          refine (nilG_Put [120] _).mono ?_
          rintro e w8 ⟨rfl, rfl⟩
          go_wp2_with fail
          refine (nilG_Drain 1 _).mono ?_
          rintro e w8 ⟨rfl, rfl⟩
          have tl0 := S_toList []
          go_wp2_with fail
          refine (nilG_Open _).mono ?_
          rintro e w8 ⟨rfl, rfl⟩
          go_wp2_with fail
          refine (nilG_Closing _).mono ?_
          rintro e w8 ⟨rfl, rfl⟩
          go_wp2_with fail
          refine (nilG_Free _).mono ?_
          rintro e w8 ⟨rfl, rfl⟩
          go_wp2_with fail
          refine (nilG_Answers _).mono ?_
          rintro e w8 ⟨rfl, rfl⟩
          go_wp2_with fail
          go_ret
          exact ⟨rfl, H6.out.k⟩
end Go.Proofs.YtdmffbefppjllaaDoor
