/- Parts of the proof of ErrandAsks, in order. No conditions but those that each theorem states. -/
import Derived.Test.YtlhnjkekjbbhcaaGreatDoorYErrandAsks0
import Derived.Lib.SlBytesConst
import Derived.Lib.LaidTab
import Derived.Lib.ItoaNum
import Derived.Lib.ItoaLen
import Derived.Sort.Grow
import Derived.Test.YtlhnjkekjbbhcaaGreatDoorYErrandAsks16
import Derived.Test.YtlhnjkekjbbhcaaGreatDoorYErrandAsks20
set_option linter.unusedSimpArgs false
set_option linter.unusedVariables false
namespace Go.Proofs.YtlhnjkekjbbhcaaGreatDoor
open Go.RowKit
structure Ans where
  st : Int
  F : List Fld
  len : Int
  ch : Bool
  cl : Bool
def ans0 : Ans := ⟨0, [], 0, false, false⟩
structure ReS where
  head : Bool
  most : Nat
  st : Nat
  inp : List UInt8
  dat : List UInt8
  left : Nat
  size : Nat
  passed : Nat
  chk : Option Ck
  ans : Option Ans
  shut : Bool
  ended : Bool
def reNew (head : Bool) (most : Int) : ReS := ⟨head, (max most 0).toNat, 0, [], [], 0, 0, 0, none, none, false, false⟩
def reAdd (p : ReS) (s : List UInt8) : ReS × Int :=
  if (16384 : Int) - p.inp.length - p.dat.length < s.length then (p, 6) else if p.shut || p.st == 5 then (p, 0) else ({ p with inp := p.inp ++ s }, 0)
def reShut (p : ReS) : ReS := { p with shut := true }
def reFail (p : ReS) : ReS := { p with st := 5 }
def noBody (s : Int) (head : Bool) : Bool := head || (decide (100 ≤ s) && decide (s < 200)) || decide (s = 204) || decide (s = 304)
structure FrR where
  p : ReS
  a : Ans
  ok : Bool
def reFrame (p : ReS) (a : Ans) : FrR :=
  if noBody a.st p.head then ⟨{ p with st := 4 }, { a with len := max (frameM a.F 1048576).n 0 }, true⟩
  else if (frameM a.F p.most).e ≠ 0 then ⟨p, a, false⟩
  else if (frameM a.F p.most).ch then ⟨{ p with st := 1, chk := some (ck0 p.most) }, { a with ch := true }, true⟩
  else if (frameM a.F p.most).n < 0 then ⟨{ p with st := 3 }, { a with len := (frameM a.F p.most).n, cl := true }, true⟩
  else ⟨{ p with st := 2, left := (frameM a.F p.most).n.toNat }, { a with len := (frameM a.F p.most).n }, true⟩
def headA (p : ReS) : Ans := ⟨(slM (splitM p.inp).st).n, (splitM p.inp).F, 0, false, closesM (splitM p.inp).F (slM (splitM p.inp).st).v⟩
def headP (p : ReS) : ReS := { p with inp := p.inp.drop (splitM p.inp).n }
def readHeadR (p : ReS) : ReS × Bool :=
  if (splitM p.inp).e = 17 then (p, false)
  else if (splitM p.inp).e ≠ 0 ∨ (slM (splitM p.inp).st).ok = false ∨ (slM (splitM p.inp).st).n = 101 then (reFail p, true)
  else if (slM (splitM p.inp).st).n < 200 then (if 5 < p.passed + 1 then (reFail { headP p with passed := p.passed + 1 }, true) else ({ headP p with passed := p.passed + 1 }, true))
  else if (reFrame (headP p) (headA p)).ok then ({ (reFrame (headP p) (headA p)).p with ans := some (reFrame (headP p) (headA p)).a }, true)
  else (reFail (headP p), true)
def readLengthR (p : ReS) : ReS × Bool :=
  if p.left - min p.left p.inp.length = 0 then ({ p with dat := p.dat ++ p.inp.take (min p.left p.inp.length), inp := p.inp.drop (min p.left p.inp.length), left := 0, st := 4 }, true)
  else ({ p with dat := p.dat ++ p.inp.take (min p.left p.inp.length), inp := p.inp.drop (min p.left p.inp.length), left := p.left - min p.left p.inp.length }, decide (0 < min p.left p.inp.length))
def closeP (p : ReS) : ReS := { p with dat := p.dat ++ p.inp.take (min (p.most - p.size) p.inp.length), size := p.size + min (p.most - p.size) p.inp.length, inp := p.inp.drop (min (p.most - p.size) p.inp.length) }
def readCloseR (p : ReS) : ReS × Bool :=
  if (closeP p).inp ≠ [] then (reFail (closeP p), true)
  else if p.shut then ({ closeP p with st := 4 }, true)
  else (closeP p, decide (0 < min (p.most - p.size) p.inp.length))
def reFinish (p : ReS) : ReS × Int :=
  if p.st = 4 then ({ p with ended := true }, 3) else if p.st == 5 || p.shut then (reFail p, 4) else (p, 0)
def reRest (p : ReS) : List UInt8 := if p.ended then p.inp else []
end Go.Proofs.YtlhnjkekjbbhcaaGreatDoor
namespace Go.Proofs.YtlhnjkekjbbhcaaGreatDoor
open Go.RowKit Go.Shelf
def acceptB : List UInt8 := [65, 99, 99, 101, 112, 116]
def inmB : List UInt8 := [73, 102, 45, 78, 111, 110, 101, 45, 77, 97, 116, 99, 104]
def methHead : List UInt8 := [72, 69, 65, 68]
def methGet : List UInt8 := [71, 69, 84]
def ctB : List UInt8 := [67, 111, 110, 116, 101, 110, 116, 45, 84, 121, 112, 101]
def dcdB : List UInt8 := [68, 111, 99, 107, 101, 114, 45, 67, 111, 110, 116, 101, 110, 116, 45, 68, 105, 103, 101, 115, 116]
def accB : List UInt8 := [97, 112, 112, 108, 105, 99, 97, 116, 105, 111, 110, 47, 118, 110, 100, 46, 111, 99, 105, 46, 105, 109, 97, 103, 101, 46, 109, 97, 110, 105, 102, 101, 115, 116, 46, 118, 49, 43, 106, 115, 111, 110, 44, 32, 97, 112, 112, 108, 105, 99, 97, 116, 105, 111, 110, 47, 118, 110, 100, 46, 111, 99, 105, 46, 105, 109, 97, 103, 101, 46, 105, 110, 100, 101, 120, 46, 118, 49, 43, 106, 115, 111, 110, 44, 32, 42, 47, 42, 59, 113, 61, 48, 46, 53]
def goodKyM (k : Ky) : Bool := isRepoM k.repo && (if k.kind = 1 then isTagM k.tag && (decide (k.dig = zeroD) && !k.blob) else decide (k.kind = 2 ∨ k.kind = 3) && k.tag.isEmpty)
def routeM (k : Ky) : Rt := ⟨if k.kind = 1 then 2 else if k.blob = true then 4 else 3, k.repo, k.tag, k.dig⟩
theorem route_good {k : Ky} (h : goodKyM k = true) : goodRtM (routeM k) = true := by
  unfold goodKyM at h; rw [Bool.and_eq_true] at h; obtain ⟨h1, h2⟩ := h; by_cases hk : k.kind = 1
  · rw [if_pos hk] at h2; simp only [Bool.and_eq_true, decide_eq_true_eq] at h2; simp [goodRtM, routeM, hk, h1, h2.1, h2.2.1]
  · rw [if_neg hk] at h2; simp only [Bool.and_eq_true, decide_eq_true_eq, List.isEmpty_iff] at h2; cases hb : k.blob <;> simp [goodRtM, routeM, hk, hb, h1, h2.2]
def inmF (t : Tk) : Fld := ⟨inmB, [34] ++ stampM t.dig.1 ++ [34]⟩
def askF (k : Ky) (host : List UInt8) (t : Tk) : List Fld := [⟨nHost, host⟩] ++ (if k.blob = true then [] else [⟨acceptB, accB⟩]) ++ (if k.kind = 1 ∧ t.found = true then [inmF t] else [])
def methB (k : Ky) : List UInt8 := if k.kind = 2 then methGet else methHead
def askedE (k : Ky) (host : List UInt8) (t : Tk) : Int := if goodKyM k = true ∧ askE (methB k) (rtText (routeM k)) (askF k host t) = 0 then 0 else 1
def askedS (k : Ky) (host : List UInt8) (t : Tk) : List UInt8 := if askedE k host t = 0 then askS (methB k) (rtText (routeM k)) (askF k host t) else []
theorem asked_bad {k : Ky} {host : List UInt8} {t : Tk} (h : goodKyM k = false) : askedE k host t = 1 ∧ askedS k host t = [] := by
  have h1 : askedE k host t = 1 := by unfold askedE; rw [if_neg (by rw [h]; simp)]
  exact ⟨h1, by unfold askedS; rw [h1]; rfl⟩
theorem asked_no {k : Ky} {host : List UInt8} {t : Tk} (h : askE (methB k) (rtText (routeM k)) (askF k host t) ≠ 0) : askedE k host t = 1 ∧ askedS k host t = [] := by
  have h1 : askedE k host t = 1 := by unfold askedE; rw [if_neg (fun hh => h hh.2)]
  exact ⟨h1, by unfold askedS; rw [h1]; rfl⟩
theorem asked_yes {k : Ky} {host : List UInt8} {t : Tk} (hg : goodKyM k = true) (h : askE (methB k) (rtText (routeM k)) (askF k host t) = 0) : askedE k host t = 0 ∧ askedS k host t = askS (methB k) (rtText (routeM k)) (askF k host t) := by
  have h1 : askedE k host t = 0 := by unfold askedE; rw [if_pos ⟨hg, h⟩]
  exact ⟨h1, by unfold askedS; rw [h1]; rfl⟩
def typM (F : List Fld) : List UInt8 := if isTypeM (getV F ctB) = true then getV F ctB else []
def sizM (n : Int) : Int := if n < 0 ∨ 1048576 < n then 0 else n
def rs0 : Rs := ⟨0, zeroD, [], 0, 0⟩
def rsBad : Rs := ⟨502, zeroD, [], 0, 0⟩
def shownM (a : Ans) : Option Dig := behindO (getV a.F dcdB)
def foundM (k : Ky) (a : Ans) (at_ : Int) : Rs :=
  if k.kind = 1 ∧ getN a.F dcdB = 1 ∧ (shownM a).isSome = true then ⟨200, (shownM a).getD zeroD, typM a.F, sizM a.len, at_⟩
  else if k.kind = 3 ∧ (getN a.F dcdB = 0 ∨ (shownM a).isSome = true ∧ (shownM a).getD zeroD = k.dig) then ⟨200, k.dig, typM a.F, sizM a.len, at_⟩
  else rsBad
def judgeV (k : Ky) (a : Ans) : Int := if a.st = 404 then 1 else if a.st = 429 ∨ (500 ≤ a.st ∧ a.st ≤ 599) then 2 else if a.st = 200 ∧ k.kind = 2 then 3 else 1
def judgeR (k : Ky) (t : Tk) (a : Ans) (at_ : Int) : Rs :=
  if a.st = 404 then ⟨404, zeroD, [], 0, at_⟩
  else if a.st = 429 ∨ (500 ≤ a.st ∧ a.st ≤ 599) then rs0
  else if a.st = 200 then (if k.kind = 2 then rs0 else foundM k a at_)
  else if a.st = 304 ∧ k.kind = 1 ∧ t.found = true then ⟨304, t.dig, t.typ, t.size, at_⟩
  else rsBad
theorem tags_tgt : ∀ b : Fin 256, tagsB.contains (UInt8.ofNat b.1) = true → tgtB (UInt8.ofNat b.1) = true := by decide +kernel
theorem of_fin {p q : UInt8 → Bool} (h : ∀ b : Fin 256, p (UInt8.ofNat b.1) = true → q (UInt8.ofNat b.1) = true) (b : UInt8) (hb : p b = true) : q b = true := by
  have := h ⟨b.toNat, b.toNat_lt⟩; rw [UInt8.ofNat_toNat] at this; exact this hb
theorem tag_tgt {s : List UInt8} (h : isTagM s = true) : s.all tgtB = true ∧ s.length ≤ 128 := by
  unfold isTagM at h; simp only [Bool.and_eq_true, decide_eq_true_eq] at h; refine ⟨List.all_eq_true.2 fun b hb => of_fin tags_tgt b (List.all_eq_true.1 h.2 b hb), h.1.1.1.2⟩
end Go.Proofs.YtlhnjkekjbbhcaaGreatDoor
