/- Parts of the proof of GuestPipes, in order. No conditions but those that each theorem states. -/
import Derived.Test.YtdmffbefppjllaaDoorZGuestPipes4
import Derived.OpenShut
/- Layer 26: what the statements are awake to. No conditions. -/
namespace Go.Proofs.YtdmffbefppjllaaDoor
open Go.RowKit Go.Shelf

def agL : List UInt8 := askL [47, 97] ++ askL [47, 98]
def agQ (c : UInt8) : Req := ⟨getB, [47, c], hK, false⟩
def ag1 : Gs := ⟨{ in0 with inp := agL }, [], false, false, 0⟩
def ag2 : Gs := ⟨{ in0 with inp := askL [47, 98] }, [], true, false, 0⟩
def ag3 : Gs := ⟨{ in0 with inp := askL [47, 98] }, [111, 110, 101], true, false, 0⟩
def ag4 : Gs := ⟨{ in0 with inp := askL [47, 98] }, [111, 110, 101], false, false, 1⟩
def ag5 : Gs := ⟨in0, [111, 110, 101], true, false, 1⟩
def ag6 : Gs := ⟨in0, [111, 110, 101, 116, 119, 111], true, false, 1⟩
def ag7 : Gs := ⟨in0, [111, 110, 101, 116, 119, 111], false, true, 2⟩
def ag8 : Gs := ⟨in0, [119, 111], false, true, 2⟩
def ag9 : Gs := ⟨in0, [], false, true, 2⟩
theorem agS1 : sayG gs0 agL = (ag1, 0) := by kernel_rfl
theorem agN1 : nextG ag1 = ⟨ag2, agQ 97, 200⟩ := by kernel_rfl
theorem agN2 : nextG ag2 = ⟨ag2, req0, 0⟩ := by kernel_rfl
theorem agP3 : putG ag2 [111, 110, 101] = (ag3, 0) := by kernel_rfl
theorem agD4 : doneG ag3 false = ag4 := by kernel_rfl
theorem agN5 : nextG ag4 = ⟨ag5, agQ 98, 200⟩ := by kernel_rfl
theorem agP6 : putG ag5 [116, 119, 111] = (ag6, 0) := by kernel_rfl
theorem agD7 : doneG ag6 true = ag7 := by kernel_rfl
theorem agR8 : ag7.out.take (drainG ag7 4) = [111, 110, 101, 116] ∧ ({ ag7 with out := ag7.out.drop (drainG ag7 4) } : Gs) = ag8 := ⟨by kernel_rfl, by kernel_rfl⟩
theorem agR9 : ag8.out.take (drainG ag8 99) = [119, 111] ∧ ({ ag8 with out := ag8.out.drop (drainG ag8 99) } : Gs) = ag9 := ⟨by kernel_rfl, by kernel_rfl⟩
theorem agS9 : (sayG ag9 [120]).2 = 8 := by kernel_rfl
theorem ag1_ok : ag1.I.ok := by
  have h := inAdd_ok in0_ok agL
  have e : (inAdd in0 agL).1 = ag1.I := by kernel_rfl
  rw [e] at h; exact h
theorem ag2_ok : ag2.I.ok := by
  have h := next_ok ag1_ok
  have e : (nextI ag1.I).p = ag2.I := by kernel_rfl
  rw [e] at h; exact h
theorem GtX {B g p : Nat} {w : World} {X R : List Nat} {G : Gs} (h : Gt B w g p X R G) : ∀ x ∈ g :: X, B ≤ x := fun x hx => by
  rcases List.mem_cons.1 hx with rfl | hx
  · exact h.lo
  · exact (h.it.lo x hx).1
theorem GtG {B g p : Nat} {w : World} {X R : List Nat} {G : Gs} (h : Gt B w g p X R G) : ∀ x ∈ [g], B ≤ x := fun x hx => by
  have h9 : x = g := (by simpa using hx)
  rw [h9]; exact h.lo
/-- a block made here is none of the guest's -/
theorem GtN {B g p : Nat} {w : World} {X R : List Nat} {G : Gs} (h : Gt B w g p X R G) : w.heap.size ∉ g :: X := fun hh => by
  rcases List.mem_cons.1 hh with h1 | h1
  · have := h.glt; omega
  · have := (h.it.lo _ h1).2; omega
theorem GtN' {B g p : Nat} {w w' : World} {X R X' R' : List Nat} {G G' : Gs} {n : Nat} (h : n ∉ g :: X) (_ : Gt B w g p X R G) (_ : Gt B w' g p X' R' G') (hn : ∀ x ∈ X', x ∈ X ∨ w.heap.size ≤ x) (hl : n < w.heap.size) : n ∉ g :: X' := fun hh => by
  rcases List.mem_cons.1 hh with h1 | h1
  · exact h (by simp [h1])
  · rcases hn n h1 with h2 | h2
    · exact h (List.mem_cons_of_mem _ h2)
    · omega
set_option maxRecDepth 100000 in
set_option maxHeartbeats 8000000 in
theorem guest_awake (w : World) (hm : ML w) : Calls Tryd.prog 14 #[] w fun e w' => e = .returned (.bool true) ∧ Keep [] w w' := by
  have hbig := hm.lt
  have HM := Lib.hid hm
  have HN := Lib.hid (guest_New w.heap.size w (Nat.le_refl _))
  have HA1 := Lib.hid (fun w' => law26_ask [47, 97] w' (by decide))
  have HA2 := Lib.hid (fun w' => law26_ask [47, 98] w' (by decide))
  have hcat : S (askL [47, 97]) ++ S (askL [47, 98]) = S agL := S_append _ _
  have la : (askL [47, 97]).length = 28 := by kernel_rfl
  have lb : (askL [47, 98]).length = 28 := by kernel_rfl
  have sa := S_size (askL [47, 97])
  have sb := S_size (askL [47, 98])
  generalize hxa : askL [47, 97] = xa at hcat la sa HA1
  generalize hxb : askL [47, 98] = xb at hcat lb sb HA2
  have t1 := S_toList [47, 97]
  have t2 := S_toList [47, 98]
  have t3 := S_toList [111, 110, 101, 116]
  have t4 := S_toList [119, 111]
  clear hm hxa hxb
  go_enter Tryd.func14, Tryd.ntmps14
  go_wp2_with fail
  refine HN.out.mono ?_
  rintro e w1 ⟨g, p, rfl, hg, h1, k1⟩
  have K1 := Lib.hid k1
  have H1 := Lib.hid h1
  have HS := Lib.hid (guest_Say agL h1 (by decide) (by decide +kernel))
  rw [agS1] at HS
  clear h1 k1 HN
  go_wp2_with fail
  refine (HA1.out _).mono ?_
  rintro e w1' ⟨rfl, rfl⟩
  go_wp2_with fail
  refine (HA2.out _).mono ?_
  rintro e w1' ⟨rfl, rfl⟩
  clear HA1 HA2
  go_wp2_with fail
  refine HS.out.mono ?_
  rintro e w2 ⟨rfl, h2, k2⟩
  have K2 := Lib.hid (K1.out.above k2 (fun x hx => (H1.out.it.lo x hx).1))
  have H2 := Lib.hid h2
  have HX := Lib.hid (guest_Next h2 (HM.out.keep K2.out (by simp)) K2.out.size hbig ag1_ok)
  rw [agN1] at HX
  unfold NgOut at HX
  dsimp only at HX
  clear h2 k2 HS H1 K1 hcat la lb sa sb
  go_wp2_with fail
  refine HX.out.mono ?_
  rintro e w3 ⟨sa, sl, sc, X3, R3, rfl, h3, k3, n3, r3⟩
  have K3 := Lib.hid (K2.out.above k3 (GtX H2.out))
  have kA := (Keep.refl [] w3).alloc (.cells (reqC (agQ 97).m (agQ 97).t (.slice sa sl sc) (agQ 97).cl).toArray 44)
  have bA := Blk.newA w3 (reqC (agQ 97).m (agQ 97).t (.slice sa sl sc) (agQ 97).cl).toArray 44
  have hNA := GtN h3
  generalize hwA : w3.alloc (.cells (reqC (agQ 97).m (agQ 97).t (.slice sa sl sc) (agQ 97).cl).toArray 44) = wA at kA bA
  have HA := Lib.hid (h3.keep0 kA)
  have KA := Lib.hid (K3.out.trans kA)
  have BA := Lib.hid (show Blk wA w3.heap.size 44 (reqC (agQ 97).m (agQ 97).t (.slice sa sl sc) (agQ 97).cl) from bA)
  have NA := Lib.hid hNA
  have HO1 := Lib.hid (reqC_one (agQ 97).m (agQ 97).t (v := .slice sa sl sc) (agQ 97).cl rfl)
  have HX := Lib.hid (guest_Next HA.out (HM.out.keep KA.out (by simp)) KA.out.size hbig ag2_ok)
  rw [agN2] at HX
  unfold NgOut at HX
  dsimp only at HX
  have hlA := BA.out.lt
  clear h3 k3 n3 r3 kA bA hNA H2 K2
  go_wp2_with (first
    | (with_reducible (show wpList _ _ _ ((⟨none, .store _ (.tmp 2) (.tmp 23), _, _, _, none⟩ : Oper) :: _) _ _)
       refine wpList_store_fresh rfl 44 (.tmp 2) (.tmp 23) rfl _ (reqC (agQ 97).m (agQ 97).t (.slice sa sl sc) (agQ 97).cl) (by rfl) (by rfl) req_size (by rfl) HO1.out ?_
       rw [hwA]
       try simp only [Act.put, List.setIfInBounds_toArray, List.set_cons_succ, List.set_cons_zero])
    | fail)
  refine HX.out.mono ?_
  rintro e w4 ⟨sd, sm, sf, X4, R4, rfl, h4, k4, n4, r4⟩
  have K4 := Lib.hid (KA.out.above k4 (GtX HA.out))
  have b4 := k4.blk BA.out NA.out
  have hN4 := GtN' NA.out HA.out h4 n4 hlA
  have kB := (Keep.refl [] w4).alloc (.cells (reqC req0.m req0.t (.slice sd sm sf) req0.cl).toArray 44)
  generalize hwB : w4.alloc (.cells (reqC req0.m req0.t (.slice sd sm sf) req0.cl).toArray 44) = wB at kB
  have HB := Lib.hid (h4.keep0 kB)
  have KB := Lib.hid (K4.out.trans kB)
  have BB := Lib.hid (kB.blk b4 (by simp))
  have NB := Lib.hid hN4
  have HO1 := Lib.hid (reqC_one req0.m req0.t (v := .slice sd sm sf) req0.cl rfl)
  have HP := Lib.hid (guest_Put [111, 110, 101] HB.out (by decide) (by decide))
  rw [agP3] at HP
  clear h4 k4 n4 r4 kB b4 hN4 hwA hlA HA KA BA NA HX K3
  go_wp2_with (first
    | (with_reducible (show wpList _ _ _ ((⟨none, .store _ (.tmp 4) (.tmp 28), _, _, _, none⟩ : Oper) :: _) _ _)
       refine wpList_store_fresh rfl 44 (.tmp 4) (.tmp 28) rfl _ (reqC req0.m req0.t (.slice sd sm sf) req0.cl) (by rfl) (by rfl) req_size (by rfl) HO1.out ?_
       rw [hwB]
       try simp only [Act.put, List.setIfInBounds_toArray, List.set_cons_succ, List.set_cons_zero])
    | fail)
  refine HP.out.mono ?_
  rintro e w5 ⟨rfl, h5, k5⟩
  have K5 := Lib.hid (KB.out.above k5 (GtG HB.out))
  have B5 := Lib.hid (k5.blk BB.out (by have := NB.out; simp at this ⊢; exact this.1))
  have H5 := Lib.hid h5
  have NB5 := NB
  have HD := Lib.hid (guest_Done false h5 (by decide))
  rw [agD4] at HD
  clear h5 k5 HP HB KB BB
  go_wp2_with fail
  refine HD.out.mono ?_
  rintro e w6 ⟨rfl, h6, k6⟩
  have K6 := Lib.hid (K5.out.above k6 (GtG H5.out))
  have B6 := Lib.hid (k6.blk B5.out (by have := NB5.out; simp at this ⊢; exact this.1))
  have H6 := Lib.hid h6
  have HX := Lib.hid (guest_Next h6 (HM.out.keep K6.out (by simp)) K6.out.size hbig ag2_ok)
  rw [agN5] at HX
  unfold NgOut at HX
  dsimp only at HX
  clear h6 k6 HD H5 K5 B5
  go_wp2_with fail
  refine HX.out.mono ?_
  rintro e w7 ⟨sg, sh, si, X7, R7, rfl, h7, k7, n7, r7⟩
  have K7 := Lib.hid (K6.out.above k7 (GtX H6.out))
  have b7 := k7.blk B6.out NB5.out
  have hN7 := GtN' NB5.out H6.out h7 n7 B6.out.lt
  have hNC := GtN h7
  have kC := (Keep.refl [] w7).alloc (.cells (reqC (agQ 98).m (agQ 98).t (.slice sg sh si) (agQ 98).cl).toArray 44)
  have bC := Blk.newA w7 (reqC (agQ 98).m (agQ 98).t (.slice sg sh si) (agQ 98).cl).toArray 44
  generalize hwC : w7.alloc (.cells (reqC (agQ 98).m (agQ 98).t (.slice sg sh si) (agQ 98).cl).toArray 44) = wC at kC bC
  have HC := Lib.hid (h7.keep0 kC)
  have KC := Lib.hid (K7.out.trans kC)
  have BC := Lib.hid (kC.blk b7 (by simp))
  have CC := Lib.hid (show Blk wC w7.heap.size 44 (reqC (agQ 98).m (agQ 98).t (.slice sg sh si) (agQ 98).cl) from bC)
  have NC := Lib.hid hN7
  have NCC := Lib.hid hNC
  have HO1 := Lib.hid (reqC_one (agQ 98).m (agQ 98).t (v := .slice sg sh si) (agQ 98).cl rfl)
  have HP := Lib.hid (guest_Put [116, 119, 111] HC.out (by decide) (by decide))
  rw [agP6] at HP
  clear h7 k7 n7 r7 kC bC b7 hN7 hNC hwB HX K6 H6 B6 NB NB5
  go_wp2_with (first
    | (with_reducible (show wpList _ _ _ ((⟨none, .store _ (.tmp 7) (.tmp 37), _, _, _, none⟩ : Oper) :: _) _ _)
       refine wpList_store_fresh rfl 44 (.tmp 7) (.tmp 37) rfl _ (reqC (agQ 98).m (agQ 98).t (.slice sg sh si) (agQ 98).cl) (by rfl) (by rfl) req_size (by rfl) HO1.out ?_
       rw [hwC]
       try simp only [Act.put, List.setIfInBounds_toArray, List.set_cons_succ, List.set_cons_zero])
    | fail)
  refine HP.out.mono ?_
  rintro e w8 ⟨rfl, h8, k8⟩
  have K8 := Lib.hid (KC.out.above k8 (GtG HC.out))
  have B8 := Lib.hid (k8.blk BC.out (by have := NC.out; simp at this ⊢; exact this.1))
  have C8 := Lib.hid (k8.blk CC.out (by have := NCC.out; simp at this ⊢; exact this.1))
  have H8 := Lib.hid h8
  have HD := Lib.hid (guest_Done true h8 (by decide))
  rw [agD7] at HD
  clear h8 k8 HP HC KC BC CC
  go_wp2_with fail
  refine HD.out.mono ?_
  rintro e w9 ⟨rfl, h9, k9⟩
  have K9 := Lib.hid (K8.out.above k9 (GtG H8.out))
  have B9 := Lib.hid (k9.blk B8.out (by have := NC.out; simp at this ⊢; exact this.1))
  have C9 := Lib.hid (k9.blk C8.out (by have := NCC.out; simp at this ⊢; exact this.1))
  have H9 := Lib.hid h9
  have b1 := B9.out.get (k := 1) (v := .string (S [47, 97])) rfl
  have c1 := C9.out.get (k := 1) (v := .string (S [47, 98])) rfl
  have HCl := Lib.hid (guest_Closing h9)
  have HOp := Lib.hid (guest_Open h9)
  have HDr := Lib.hid (guest_Drain 4 h9 (by decide))
  rw [agR8.1, agR8.2] at HDr
  clear h9 k9 HD H8 K8 B8 C8 B9 C9
  go_wp2_with fail
  refine HCl.out.mono ?_
  rintro e w9' ⟨rfl, rfl⟩
  have q1 : ag7.closing = true := rfl
  go_wp2_with fail
  refine HOp.out.mono ?_
  rintro e w9' ⟨rfl, rfl⟩
  have q2 : (!ag7.closing || !ag7.out.isEmpty) = true := rfl
  clear b1 c1 HCl HOp
  go_wp2_with fail
  refine HDr.out.mono ?_
  rintro e w10 ⟨rfl, h10, k10⟩
  have K10 := Lib.hid (K9.out.above k10 (GtG H9.out))
  have H10 := Lib.hid h10
  have HDr2 := Lib.hid (guest_Drain 99 h10 (by decide))
  rw [agR9.1, agR9.2] at HDr2
  clear h10 k10 HDr
  go_wp2_with fail
  refine HDr2.out.mono ?_
  rintro e w11 ⟨rfl, h11, k11⟩
  have K11 := Lib.hid (K10.out.above k11 (GtG H10.out))
  have H11 := Lib.hid h11
  have HOp := Lib.hid (guest_Open h11)
  have HAn := Lib.hid (guest_Answers h11)
  have HSy := Lib.hid (guest_Say [120] h11 (by decide) (by decide))
  rw [agS9] at HSy
  clear h11 k11 HDr2
  go_wp2_with fail
  refine HOp.out.mono ?_
  rintro e w11' ⟨rfl, rfl⟩
  have q3 : (!ag9.closing || !ag9.out.isEmpty) = false := rfl
  go_wp2_with fail
  refine HAn.out.mono ?_
  rintro e w11' ⟨rfl, rfl⟩
  have q4 : ((ag9.ans : Nat) : Int) = 2 := rfl
  go_wp2_with fail
  refine HSy.out.mono ?_
  rintro e w12 ⟨rfl, _, k12⟩
  have K12 := Lib.hid (K11.out.above k12 (fun x hx => (H11.out.it.lo x hx).1))
  clear k12
  go_wp2_with fail
  go_ret
  exact ⟨rfl, K12.out⟩
end Go.Proofs.YtdmffbefppjllaaDoor

/- An argument that is a slice of ints, read. No conditions. -/
namespace Go.Proofs.YtdmffbefppjllaaDoor
open Go.ChangeShapes Go.WideShapes Go.ChangeAt Go.RowKit

def intC (n : Int) : List Value := [.int .i64 n]
theorem intC_length (n : Int) : (intC n).length = 1 := rfl
theorem int_cells : Tryd.prog.cellsOf 3 = 1 := by kernel_rfl
theorem read_intC {H : Type} {enc : TypeId × Value → H} {w : World} {base : Nat} {spare : Nat → Bool} {held : Bool} (m : Nat) (cs : List Value) (x : DataW H × List MemPlace)
    (h : DataW.trod enc Tryd.prog w base spare held m 3 cs = some x) : ∃ a : Int, cs = intC a ∧ in64 a := by
  obtain ⟨a, c0, _, wa⟩ := DataW.trod_int Tryd.underlying3 h
  exact ⟨a, c0, in64_of wa⟩
end Go.Proofs.YtdmffbefppjllaaDoor

/- Layer 26: the statement GuestPipes. No conditions. -/
namespace Go.Proofs.YtdmffbefppjllaaDoor
open Go.RowKit Go.Shelf

def gp1 : Gs := ⟨{ in0 with inp := askL [47] }, [], false, false, 0⟩
def gpO (out : List UInt8) : Gs := ⟨in0, out, true, false, 0⟩
theorem gpS : sayG gs0 (askL [47]) = (gp1, 0) := by kernel_rfl
theorem gpN : nextG gp1 = ⟨gpO [], ⟨getB, [47], hK, false⟩, 200⟩ := by kernel_rfl
theorem gp1_ok : gp1.I.ok := by
  have h := inAdd_ok in0_ok (askL [47])
  have e : (inAdd in0 (askL [47])).1 = gp1.I := by kernel_rfl
  rw [e] at h; exact h
set_option maxRecDepth 100000 in
set_option maxHeartbeats 8000000 in
theorem guestPipes_walk (va vb : Value) (P : List (List UInt8)) (T : List Int) (w : World) (hm : ML w) (ha : Sl strC 1 w va P) (hp : ∀ x ∈ P, x.length ≤ maxLen) (hb : Sl intC 1 w vb T) (ht : ∀ x ∈ T, in64 x) :
    Calls Tryd.prog 5 #[va, vb] w fun e w' => e = .returned (.bool true) ∧ Keep [] w w' := by
  obtain ⟨aa, ca, rfl, hal⟩ := ha.shape
  obtain ⟨ab, cb, rfl, hbl⟩ := hb.shape
  have hal' : P.length ≤ 9223372036854775807 := hal
  have hbl' : T.length ≤ 9223372036854775807 := hbl
  have HP := Lib.hid ha
  have HT := Lib.hid hb
  have HPG := Lib.hid hp
  have HTG := Lib.hid ht
  have HAw := Lib.hid (guest_awake w hm)
  have hbig := hm.lt
  have HM := Lib.hid hm
  have HN := Lib.hid (fun w' (k : Keep [] w w') => guest_New w.heap.size w' k.size)
  have HAs := Lib.hid (fun w' => law26_ask [47] w' (by decide))
  clear ha hb hm hal hbl hp ht
  go_enter Tryd.func5, Tryd.ntmps5
  go_wp2_with fail
  refine HAw.out.mono ?_
  rintro e w1 ⟨rfl, k1⟩
  have K1 := Lib.hid k1
  clear k1
  go_wp2_with fail
  refine (HN.out _ K1.out).mono ?_
  rintro e w2 ⟨g, p, rfl, hg, h2, k2⟩
  have K2 := Lib.hid (K1.out.trans k2)
  have H2 := Lib.hid h2
  have HS := Lib.hid (guest_Say (askL [47]) h2 (by decide) (by decide +kernel))
  rw [gpS] at HS
  clear h2 k2 HN HAw K1
  go_wp2_with fail
  refine (HAs.out _).mono ?_
  rintro e w2' ⟨rfl, rfl⟩
  clear HAs
  go_wp2_with fail
  refine HS.out.mono ?_
  rintro e w3 ⟨rfl, h3, k3⟩
  have K3 := Lib.hid (K2.out.above k3 (fun x hx => (H2.out.it.lo x hx).1))
  have H3 := Lib.hid h3
  have HX := Lib.hid (guest_Next h3 (HM.out.keep K3.out (by simp)) K3.out.size hbig gp1_ok)
  rw [gpN] at HX
  unfold NgOut at HX
  dsimp only at HX
  clear h3 k3 HS H2 K2
  go_wp2_with fail
  refine HX.out.mono ?_
  rintro e w4 ⟨sa, sl, sc, X, R, rfl, h4, k4, n4, r4⟩
  have K4 := Lib.hid (K3.out.above k4 (GtX H3.out))
  have kA := (Keep.refl [] w4).alloc (.cells (reqC getB [47] (.slice sa sl sc) false).toArray 44)
  generalize hwA : w4.alloc (.cells (reqC getB [47] (.slice sa sl sc) false).toArray 44) = wA at kA
  have HA := Lib.hid (h4.keep0 kA)
  have KA := Lib.hid (K4.out.trans kA)
  have HO1 := Lib.hid (reqC_one getB [47] (v := .slice sa sl sc) false rfl)
  clear h4 k4 n4 r4 kA HX H3 K3 K4
  go_wp2_with (first
    | (with_reducible (show wpList _ _ _ ((⟨none, .store _ (.tmp 6) (.tmp 23), _, _, _, none⟩ : Oper) :: _) _ _)
       refine wpList_store_fresh rfl 44 (.tmp 6) (.tmp 23) rfl _ (reqC getB [47] (.slice sa sl sc) false) (by rfl) (by rfl) req_size (by rfl) HO1.out ?_
       rw [hwA]
       try simp only [Act.put, List.setIfInBounds_toArray, List.set_cons_succ, List.set_cons_zero])
    | fail)
  clear hwA HO1
  go_loopg [8, 9, 10] 60 (fun gg pv tv iv wr => ∃ (k : Nat) (put tak out : List UInt8), pv = .string (S put) ∧ tv = .string (S tak) ∧ iv = .int .i64 (k : Nat) ∧ k ≤ 60 ∧ gg = 60 - k ∧ out.length ≤ 8192 ∧ put.length = tak.length + out.length ∧ put.length ≤ 4096 * k ∧ Hid (put = tak ++ out) ∧ Hid (Gt w.heap.size wr g p X R (gpO out)) ∧ Hid (Keep [] w wr))
  case atStart => exact ⟨0, [], [], [], rfl, rfl, rfl, by omega, rfl, by simp, by simp, by simp, Lib.hid rfl, HA, KA⟩
  case round =>
    obtain ⟨k, put, tak, out, rfl, rfl, rfl, hk, hgg, hol, hpl, hpk, HPT, HG, KR⟩ := hrel
    have s1 := S_size put
    have s2 := S_size tak
    have s3 := S_size out
    have wk := IntWalk.i64_in ((k : Int) + 1) (by omega)
    have hPT : (out.length : Int) = (put.length : Int) - (tak.length : Int) := by omega
    have HPL := Lib.hid hPT
    clear hPT
    by_cases hcont : k < P.length ∧ k < 60
    · obtain ⟨hlt, hk60⟩ := hcont
      obtain ⟨x, hx⟩ : ∃ x, P[k]? = some x := ⟨_, List.getElem?_eq_getElem hlt⟩
      have hxm : x.length ≤ 9223372036854775807 := HPG.out x (List.mem_of_getElem? hx)
      have sX := S_size x
      obtain ⟨b1, o1, c1, e1, l1, m1, x1⟩ := HP.out.cell hx
      simp only [Value.slice.injEq] at e1
      obtain ⟨rfl, _, rfl⟩ := e1
      have a0 := x1 0 (by omega)
      simp only [strC, List.getElem?_cons_zero, Nat.add_zero, Nat.mul_one] at a0
      have HC := Lib.hid (fun w' (k : Keep [] w w') => k.load a0)
      clear hx x1 l1 m1 a0
      have ar := HC.out _ KR.out
      by_cases hbig2 : 4096 < x.length
      · have q1 : decide ((x.length : Int) > 4096) = true := by simp; omega
        clear hbig2
        go_wp2_with fail
        go_ret
        exact ⟨rfl, KR.out⟩
      · have q1 : decide ((x.length : Int) > 4096) = false := by simp; omega
        have HFr := Lib.hid (guest_Free HG.out (by show out.length ≤ 1048576; omega))
        have HPu := Lib.hid (guest_Put x HG.out (by show out.length ≤ 1048576; omega) (by omega))
        have hfree : ((8192 : Int) - ((gpO out).out.length : Int)) = 8192 - (out.length : Int) := rfl
        rw [hfree] at HFr
        have HMore : Hid (k < T.length → ∃ n, T[k]? = some n ∧ in64 n) := Lib.hid (fun h => ⟨_, List.getElem?_eq_getElem h, HTG.out _ (List.getElem_mem h)⟩)
        have wf := IntWalk.i64_in ((8192 : Int) - (out.length : Int)) (by omega)
        have wpt := IntWalk.i64_in ((put.length : Int) - (tak.length : Int)) (by omega)
        have wpt2 := IntWalk.i64_in ((8192 : Int) - ((put.length : Int) - (tak.length : Int))) (by omega)
        have q5 : (((8192 : Int) - (out.length : Int)) != ((8192 : Int) - ((put.length : Int) - (tak.length : Int)))) = false := by rw [HPL.out]; simp
        obtain ⟨out2, put2, hwhich⟩ : ∃ out2 put2 : List UInt8, (x.length + out.length ≤ 8192 ∧ out2 = out ++ x ∧ put2 = put ++ x ∧ putG (gpO out) x = (gpO out2, 0)) ∨ (8192 < x.length + out.length ∧ out2 = out ∧ put2 = put ∧ putG (gpO out) x = (gpO out2, 6)) := by
          by_cases hfit : x.length + out.length ≤ 8192
          · refine ⟨out ++ x, put ++ x, .inl ⟨hfit, rfl, rfl, ?_⟩⟩
            show (if true then (if (8192 : Int) - out.length < x.length then (gpO out, 6) else ({ gpO out with out := out ++ x }, 0)) else (gpO out, 8)) = _
            rw [if_pos rfl, if_neg (by omega)]; rfl
          · refine ⟨out, put, .inr ⟨by omega, rfl, rfl, ?_⟩⟩
            show (if true then (if (8192 : Int) - out.length < x.length then (gpO out, 6) else ({ gpO out with out := out ++ x }, 0)) else (gpO out, 8)) = _
            rw [if_pos rfl, if_pos (by omega)]
        have hnew : out2.length ≤ 8192 ∧ put2.length = tak.length + out2.length ∧ put2.length ≤ 4096 * (k + 1) ∧ put2 = tak ++ out2 := by
          rcases hwhich with ⟨h1, rfl, rfl, _⟩ | ⟨h1, rfl, rfl, _⟩
          · refine ⟨by simp; omega, by simp; omega, by simp; omega, by rw [HPT.out, List.append_assoc]⟩
          · exact ⟨hol, hpl, by omega, HPT.out⟩
        obtain ⟨ho2, hp2, hp3, hp4⟩ := hnew
        have HP4 := Lib.hid hp4
        have s6 := S_size put2
        have s7 := S_size out2
        rcases hwhich with ⟨hf, ho2e, hput, hpg⟩ | ⟨hf, ho2e, hput, hpg⟩
        all_goals
          rw [hpg] at HPu
          first
            | (have q2 : decide ((x.length : Int) ≤ (8192 : Int) - (out.length : Int)) = true := by
                 simp; omega
               have hcat : S put ++ S x = S put2 := by rw [S_append, hput]
               have hov : ¬ 9223372036854775807 < put.length + x.length := by omega)
            | (have q2 : decide ((x.length : Int) ≤ (8192 : Int) - (out.length : Int)) = false := by
                 simp; omega
               have hput' : put = put2 := hput.symm)
          clear hpg hput hp4 ho2e
          go_wp2_with fail
          refine HFr.out.mono ?_
          rintro e w5 ⟨rfl, rfl⟩
          go_wp2_with fail
          refine HPu.out.mono ?_
          rintro e w6 ⟨rfl, h6, k6⟩
          have K6 := Lib.hid (KR.out.above k6 (GtG HG.out))
          have H6 := Lib.hid h6
          have ar6 := HC.out _ K6.out
          clear h6 k6 ar
          try subst hput'
          by_cases hkt : k < T.length
          · obtain ⟨n, hn⟩ : ∃ n, T[k]? = some n := ⟨_, List.getElem?_eq_getElem hkt⟩
            have hin := HTG.out n (List.mem_of_getElem? hn)
            obtain ⟨b2, o2, c2, e2, l2, m2, y1⟩ := HT.out.cell hn
            simp only [Value.slice.injEq] at e2
            obtain ⟨rfl, _, rfl⟩ := e2
            have t0 := y1 0 (by omega)
            simp only [intC, List.getElem?_cons_zero, Nat.add_zero, Nat.mul_one] at t0
            have HC2 := Lib.hid (fun w' (k : Keep [] w w') => k.load t0)
            have tr := HC2.out _ K6.out
            have HDr := Lib.hid (guest_Drain n H6.out (by show out2.length ≤ 1048576; omega))
            have hkk : drainG (gpO out2) n ≤ out2.length := Nat.min_le_right _ _
            have hkk2 : ((drainG (gpO out2) n : Nat) : Int) ≤ max n 0 := by
              have h1 : drainG (gpO out2) n ≤ (max n 0).toNat := Nat.min_le_left _ _
              omega
            change Hid (Calls Tryd.prog 21 #[.pointer (some ⟨g, 0, none⟩), .int .i64 n] w6 fun e w' => e = .returned (.string (S (out2.take (drainG (gpO out2) n)))) ∧ Gt w.heap.size w' g p X R (gpO (out2.drop (drainG (gpO out2) n))) ∧ Keep [g] w6 w') at HDr
            generalize drainG (gpO out2) n = kk at *
            have hlk : (out2.take kk).length = kk := by rw [List.length_take]; omega
            have sK := S_size (out2.take kk)
            rw [hlk] at sK
            have qd : decide ((kk : Int) > max n 0) = false := by simp; omega
            have hcat2 := S_append tak (out2.take kk)
            have hov2 : ¬ 9223372036854775807 < tak.length + kk := by omega
            have HF := Lib.hid (show (tak ++ out2.take kk) ++ out2.drop kk = tak ++ out2 by rw [List.append_assoc, List.take_append_drop])
            have hdl : (out2.drop kk).length = out2.length - kk := List.length_drop
            have htl : (tak ++ out2.take kk).length = tak.length + kk := by rw [List.length_append, hlk]
            have HLN := Lib.hid (And.intro hdl htl)
            clear hn t0 y1 l2 m2 hin hkk2 hdl htl HMore
            go_wp2_with fail
            refine HDr.out.mono ?_
            rintro e w7 ⟨rfl, h7, k7⟩
            have K7 := Lib.hid (K6.out.above k7 (GtG H6.out))
            have H7 := Lib.hid h7
            have tr7 := HC2.out _ K7.out
            clear h7 k7 tr ar6
            go_wp2_with fail
            go_roundg (60 - (k + 1))
            case measure => omega
            case rel => exact ⟨k + 1, _, _, out2.drop kk, rfl, rfl, by go_num, by omega, rfl, by have := HLN.out.1; omega, by have h1 := HLN.out.1; have h2 := HLN.out.2; omega, hp3, Lib.hid (HP4.out.trans HF.out.symm), H7, K7⟩
          · have qk : ¬ (k : Int) < (T.length : Int) := by omega
            clear hkt HMore
            go_wp2_with fail
            go_roundg (60 - (k + 1))
            case measure => omega
            case rel => exact ⟨k + 1, _, _, out2, rfl, rfl, by go_num, by omega, rfl, ho2, hp2, hp3, HP4, H6, K6⟩
    · have hdr : drainG (gpO out) 8192 = out.length := by
        show min (max (8192 : Int) 0).toNat out.length = out.length
        omega
      have HDr := Lib.hid (guest_Drain 8192 HG.out (by show out.length ≤ 1048576; omega))
      have hst : ({ gpO out with out := (gpO out).out.drop (drainG (gpO out) 8192) } : Gs) = gpO [] := by rw [hdr]; show gpO (out.drop out.length) = gpO []; rw [List.drop_length]
      have hou : (gpO out).out.take (drainG (gpO out) 8192) = out := by rw [hdr]; show out.take out.length = out; rw [List.take_length]
      rw [hst, hou] at HDr
      have hcat : S tak ++ S out = S put := by rw [S_append, HPT.out]
      have hov : ¬ 9223372036854775807 < tak.length + out.length := by omega
      have tl := S_toList put
      have tl0 := S_toList []
      have qe : k < P.length → ¬ k < 60 := fun h h2 => hcont ⟨h, h2⟩
      have qe2 : ¬ (k : Int) < (P.length : Int) ∨ (k < P.length ∧ decide ((k : Int) < 60) = false) := by
        by_cases h : k < P.length
        · exact .inr ⟨h, by have := qe h; simp; omega⟩
        · exact .inl (by omega)
      clear hcont hdr hst hou qe
      rcases qe2 with qe2 | ⟨qe2, qe3⟩
      all_goals
        go_wp2_with fail
        refine HDr.out.mono ?_
        rintro e w7 ⟨rfl, h7, k7⟩
        have K7 := Lib.hid (KR.out.above k7 (GtG HG.out))
        have H7 := Lib.hid h7
        have HD1 := Lib.hid (guest_Drain 1 h7 (by decide))
        have hst : ({ gpO [] with out := (gpO []).out.drop (drainG (gpO []) 1) } : Gs) = gpO [] := rfl
        have hou : (gpO []).out.take (drainG (gpO []) 1) = [] := rfl
        rw [hst, hou] at HD1
        clear h7 k7 hst hou
        go_wp2_with fail
        refine HD1.out.mono ?_
        rintro e w8 ⟨rfl, h8, k8⟩
        have K8 := Lib.hid (K7.out.above k8 (GtG H7.out))
        have HF := Lib.hid (guest_Free h8 (by decide))
        have hf : ((8192 : Int) - ((gpO []).out.length : Int)) = 8192 := rfl
        rw [hf] at HF
        clear h8 k8 hf
        go_wp2_with fail
        refine HF.out.mono ?_
        rintro e w9 ⟨rfl, rfl⟩
        go_wp2_with fail
        go_ret
        exact ⟨rfl, K8.out⟩
end Go.Proofs.YtdmffbefppjllaaDoor

/- An argument that is a slice of strings, read. No conditions. -/
namespace Go.Proofs.YtdmffbefppjllaaDoor
open Go.ChangeShapes Go.WideShapes Go.ChangeAt Go.RowKit

theorem read_strC {H : Type} {enc : TypeId × Value → H} {w : World} {base : Nat} {spare : Nat → Bool} {held : Bool} (m : Nat) (cs : List Value) (x : DataW H × List MemPlace)
    (h : DataW.trod enc Tryd.prog w base spare held m 9 cs = some x) : ∃ a : List UInt8, cs = strC a ∧ a.length ≤ maxLen := by
  obtain ⟨a, c0, _, la⟩ := DataW.trod_string Tryd.underlying9 h
  exact ⟨a.data.toList, by rw [strC, S_of]; exact c0, by rw [Array.length_toList]; exact la⟩
end Go.Proofs.YtdmffbefppjllaaDoor
