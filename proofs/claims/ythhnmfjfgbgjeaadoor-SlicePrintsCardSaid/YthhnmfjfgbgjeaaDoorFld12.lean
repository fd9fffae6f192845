/- Layer 10: the head: next, begin. No conditions but on lengths. -/
import Derived.Test.YthhnmfjfgbgjeaaDoorFld11
namespace Go.Proofs.YthhnmfjfgbgjeaaDoor
open Go.RowKit Go.Shelf

def seenM (s : List UInt8) (at' : Nat) : List UInt8 := (s.take 4096).drop at'
def lineM (l : List UInt8) : Option (List UInt8) :=
  if Lib.hasSuffix l [13, 10] = true ∧ Lib.indexByte (Lib.trimSuffix l [13, 10]) 13 < 0 then some (Lib.trimSuffix l [13, 10]) else none
/-- the next line, where the text stands behind it, the error -/
def nextM (s : List UInt8) (at' : Nat) : List UInt8 × Nat × Int :=
  if Lib.indexByte (seenM s at') 10 < 0 then ([], at', if 4096 ≤ s.length then 4 else 17)
  else match lineM ((seenM s at').take ((Lib.indexByte (seenM s at') 10).toNat + 1)) with
    | none => ([], at' + ((Lib.indexByte (seenM s at') 10).toNat + 1), 3)
    | some l => (l, at' + ((Lib.indexByte (seenM s at') 10).toNat + 1), 0)

/-- the head as it is read: W: the world before the call; b: its block -/
def Hd (W w : World) (b : Nat) (st : List UInt8) (F : List Fld) (at' : Nat) : Prop :=
  ∃ fv, Blk w b 75 [.string (S st), fv, .int .i64 at'] ∧ Own Fld.cells 2 W.heap.size 32 w fv F ∧ (∀ g, fv.ownBlock = some g → g ≠ b) ∧ W.heap.size ≤ b ∧ Keep [] W w
theorem Hd.step {W w w' : World} {b : Nat} {st : List UInt8} {F : List Fld} {at' : Nat} (h : Hd W w b st F at') (k : Keep [] w w') : Hd W w' b st F at' := by
  obtain ⟨fv, h1, h2, h3, h4, h5⟩ := h
  exact ⟨fv, k.blk h1 (by simp), h2.keep0 k, h3, h4, h5.trans k⟩

set_option maxRecDepth 100000 in
set_option maxHeartbeats 1000000 in
theorem head_next (W : World) (s : List UInt8) (b : Nat) (st : List UInt8) (F : List Fld) (at' : Nat) (w : World) (h : Hd W w b st F at') (hs : s.length ≤ 1048576) (ha : at' ≤ s.length) (ha2 : at' ≤ 4096) :
    Calls Tryd.prog 60 #[.pointer (some ⟨b, 0, none⟩), .string (S s)] w fun e w' => e = .returned (.tuple #[.string (S (nextM s at').1), .int .i64 (nextM s at').2.2]) ∧ Hd W w' b st F (nextM s at').2.1 := by
  obtain ⟨fv, h1, h2, h3, h4, h5⟩ := h
  have c0 := h1.get (k := 2) rfl
  have f0 := h1.frozen
  have hlt := h1.lt
  have H := Lib.hid (And.intro h1 (And.intro h2 (And.intro h3 (And.intro h4 h5))))
  clear h1 h2 h3 h4 h5
  have hsz := S_size s
  have hx : (S s).extract at' (min ((s.length : Nat) : Int) 4096).toNat = S (seenM s at') := by
    have e : (min ((s.length : Nat) : Int) 4096).toNat = min s.length 4096 := by omega
    rw [e, S_extract]
    unfold seenM
    congr 2
    rw [Nat.min_comm, List.take_eq_take_iff]
    omega
  have hix := Tryd.strings_IndexByte (S (seenM s at')) 10
  have ec : ((10 : Int)).toNat.toUInt8 = 10 := rfl
  rw [ec, S_list] at hix
  have hseen : (seenM s at').length + at' ≤ 4096 ∧ (seenM s at').length + at' ≤ s.length := by unfold seenM; simp; omega
  obtain ⟨hq1, hq2⟩ := hseen
  have hN : nextM s at' = (if Lib.indexByte (seenM s at') 10 < 0 then ([], at', if 4096 ≤ s.length then 4 else 17)
    else match lineM ((seenM s at').take ((Lib.indexByte (seenM s at') 10).toNat + 1)) with
      | none => ([], at' + ((Lib.indexByte (seenM s at') 10).toNat + 1), 3)
      | some l => (l, at' + ((Lib.indexByte (seenM s at') 10).toNat + 1), 0) : List UInt8 × Nat × Int) := rfl
  generalize seenM s at' = l at hx hix hq1 hq2 hN
  have hsl := S_size l
  have hge := Lib.indexByte_ge l 10
  by_cases hi : Lib.indexByte l 10 = -1
  · rw [hi] at hix hN
    rw [if_pos (by omega)] at hN
    by_cases hbig : 4096 ≤ s.length
    · rw [if_pos hbig] at hN
      have HN := Lib.hid hN
      clear hN hi hge
      go_enter Tryd.func60, Tryd.ntmps60
      go_wp2_with fail
      refine (hix _).mono ?_
      rintro e w1 ⟨rfl, rfl⟩
      go_wp2_with fail
      go_ret2
      rw [HN.out]
      exact ⟨rfl, fv, H.out⟩
    · rw [if_neg hbig] at hN
      have HN := Lib.hid hN
      clear hN hi hge
      go_enter Tryd.func60, Tryd.ntmps60
      go_wp2_with fail
      refine (hix _).mono ?_
      rintro e w1 ⟨rfl, rfl⟩
      go_wp2_with fail
      go_ret2
      rw [HN.out]
      exact ⟨rfl, fv, H.out⟩
  · obtain ⟨o, ho⟩ : ∃ o : Nat, Lib.indexByte l 10 = o := ⟨(Lib.indexByte l 10).toNat, by omega⟩
    have hol := (List.getElem?_eq_some_iff.1 (Lib.indexByte_some ho).1).1
    rw [ho] at hix hN
    rw [if_neg (by omega), Int.toNat_natCast] at hN
    have hx3 : (S l).extract 0 (o + 1) = S (l.take (o + 1)) := by rw [S_extract]; simp
    have hcs := fun w1 => Tryd.strings_CutSuffix (S (l.take (o + 1))) ⟨#[13, 10]⟩ w1 (by rw [S_size]; simp; omega)
    rw [S_list] at hcs
    change ∀ w1, Calls Tryd.prog 75 #[.string (S (l.take (o + 1))), .string ⟨#[13, 10]⟩] w1 fun e w' => e = .returned (.tuple #[.string (S (Lib.trimSuffix (l.take (o + 1)) [13, 10])), .bool (Lib.hasSuffix (l.take (o + 1)) [13, 10])]) ∧ w' = w1 at hcs
    have hL : lineM (l.take (o + 1)) = if Lib.hasSuffix (l.take (o + 1)) [13, 10] = true ∧ Lib.indexByte (Lib.trimSuffix (l.take (o + 1)) [13, 10]) 13 < 0 then some (Lib.trimSuffix (l.take (o + 1)) [13, 10]) else none := rfl
    have hi2 := Tryd.strings_IndexByte (S (Lib.trimSuffix (l.take (o + 1)) [13, 10])) 13
    have ec2 : ((13 : Int)).toNat.toUInt8 = 13 := rfl
    rw [ec2, S_list] at hi2
    generalize Lib.trimSuffix (l.take (o + 1)) [13, 10] = tl at hcs hi2 hL
    have hge2 := Lib.indexByte_ge tl 13
    have hset : ∀ w1 : World, w1 = w → Hd W (w1.setCell ⟨b, 2, none⟩ (.int .i64 (((at' + (o + 1) : Nat) : Int)))) b st F (at' + (o + 1)) := by
      rintro w1 rfl
      obtain ⟨h1, h2, h3, h4, h5⟩ := H.out
      have hk : Keep [b] w1 (w1.setCell ⟨b, 2, none⟩ (.int .i64 (((at' + (o + 1) : Nat) : Int)))) := (Keep.refl [b] w1).setCell _ _ (by simp)
      exact ⟨fv, h1.set 2 _, h2.keep hk (fun g hg => by simpa using h3 g hg), h3, h4, h5.setCell _ _ (by simp; omega)⟩
    have HS := Lib.hid hset
    clear hset hi hge ho
    cases hsf : Lib.hasSuffix (l.take (o + 1)) [13, 10] with
    | false =>
      rw [hsf, if_neg (by simp)] at hL
      rw [hL] at hN
      rw [hsf] at hcs
      have HN := Lib.hid hN
      clear hN hL hi2 hge2 hsf
      go_enter Tryd.func60, Tryd.ntmps60
      go_wp2_with fail
      refine (hix _).mono ?_
      rintro e w1 ⟨rfl, rfl⟩
      go_wp2_with fail
      refine (hcs _).mono ?_
      rintro e w2 ⟨rfl, rfl⟩
      go_wp2_with fail
      go_ret2
      rw [HN.out]
      exact ⟨rfl, HS.out _ rfl⟩
    | true =>
      rw [hsf] at hL hcs
      by_cases h13 : Lib.indexByte tl 13 < 0
      · rw [if_pos ⟨rfl, h13⟩] at hL
        rw [hL] at hN
        have HN := Lib.hid hN
        have hm1 : Lib.indexByte tl 13 = -1 := by omega
        rw [hm1] at hi2
        clear hN hL hge2 hsf h13 hm1
        go_enter Tryd.func60, Tryd.ntmps60
        go_wp2_with fail
        refine (hix _).mono ?_
        rintro e w1 ⟨rfl, rfl⟩
        go_wp2_with fail
        refine (hcs _).mono ?_
        rintro e w2 ⟨rfl, rfl⟩
        go_wp2_with fail
        refine (hi2 _).mono ?_
        rintro e w3 ⟨rfl, rfl⟩
        go_wp2_with fail
        go_ret2
        rw [HN.out]
        exact ⟨rfl, HS.out _ rfl⟩
      · rw [if_neg (fun h => h13 h.2)] at hL
        rw [hL] at hN
        have HN := Lib.hid hN
        obtain ⟨o2, ho2⟩ : ∃ o : Nat, Lib.indexByte tl 13 = o := ⟨(Lib.indexByte tl 13).toNat, by omega⟩
        rw [ho2] at hi2
        clear hN hL hge2 hsf h13 ho2
        go_enter Tryd.func60, Tryd.ntmps60
        go_wp2_with fail
        refine (hix _).mono ?_
        rintro e w1 ⟨rfl, rfl⟩
        go_wp2_with fail
        refine (hcs _).mono ?_
        rintro e w2 ⟨rfl, rfl⟩
        go_wp2_with fail
        refine (hi2 _).mono ?_
        rintro e w3 ⟨rfl, rfl⟩
        go_wp2_with fail
        go_ret2
        rw [HN.out]
        exact ⟨rfl, HS.out _ rfl⟩
end Go.Proofs.YthhnmfjfgbgjeaaDoor
