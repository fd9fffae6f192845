/- What the functions of layer 10 compute, as plain functions of lists of bytes. No program. No conditions. -/
import Derived.Test.YthhnmfjfgbgjeaaDoorStr
namespace Go.Proofs.YthhnmfjfgbgjeaaDoor
open Go.RowKit

def marks : List UInt8 := [33, 35, 36, 37, 38, 39, 42, 43, 45, 46, 94, 95, 96, 124, 126]
def tchar (b : UInt8) : Bool := (decide (97 ≤ b.toNat) && decide (b.toNat ≤ 122)) || (decide (65 ≤ b.toNat) && decide (b.toNat ≤ 90)) || (decide (48 ≤ b.toNat) && decide (b.toNat ≤ 57)) || decide (0 ≤ Lib.indexByte marks b)
def isTok (l : List UInt8) : Bool := l.all tchar && !l.isEmpty
def textB (b : UInt8) : Bool := !(decide (b.toNat < 32) && b.toNat != 9 || b.toNat == 127)
def isTxt (l : List UInt8) : Bool := l.all textB
def trimW (l : List UInt8) : List UInt8 := Lib.trimS l [32, 9]
def lowB (b : UInt8) : UInt8 := if 65 ≤ b.toNat ∧ b.toNat ≤ 90 then b + 32 else b
def lowW (l : List UInt8) : List UInt8 := l.map lowB
/-- a field -/
structure Fld where
  name : List UInt8
  value : List UInt8
  deriving DecidableEq, Inhabited
def Fld.cells (f : Fld) : List Value := [.string (S f.name), .string (S f.value)]
theorem Fld.cells_length (f : Fld) : f.cells.length = 2 := rfl
def parseF (l : List UInt8) : Option Fld :=
  let c := Lib.cut l [58]
  if c.2.2 && isTok c.1 && isTxt c.2.1 then some ⟨c.1, trimW c.2.1⟩ else none
/-- what Parse hands back -/
def parseV (l : List UInt8) : Fld := (parseF l).getD ⟨[], []⟩
def parseE (l : List UInt8) : Int := if (parseF l).isSome then 0 else 3
def goodF (f : Fld) : Bool := isTok f.name && isTxt f.value && trimW f.value == f.value
def printF (f : Fld) : List UInt8 := f.name ++ [58, 32] ++ f.value
end Go.Proofs.YthhnmfjfgbgjeaaDoor
