/- Plain mathematics of disks: power supplies, faults, operations. -/
import Derived.Test.YtmloiifnadaaoaaGreatStpH
import Derived.Test.YtmloiifnadaaoaaGreatFltA
namespace Go.Proofs.YtmloiifnadaaoaaGreat
open Go.RowKit
set_option linter.unusedVariables false

/-- Counting, as the machine counts. -/
def inc (x : Int) : Int := wrap64 (x + 1)
def dec (x : Int) : Int := wrap64 (x - 1)
/-- A power supply. -/
structure Pow where
  off : Bool
  armed : Bool
  left : Int
  fails : Int
namespace Pow
def new : Pow := ⟨false, false, 0, 0⟩
def arm (p : Pow) (n : Int) : Pow := if p.off then p else { p with armed := decide (0 ≤ n), left := n }
def on (p : Pow) : Pow := { p with off := false }
def call (p : Pow) : Pow := if p.armed then (if p.left = 0 then { p with off := true, armed := false, fails := inc p.fails } else { p with left := dec p.left }) else p
end Pow
/-- A disk: geometry, cache, faults, key, dead, the failures that it knows, count of operations, the four counters. -/
structure Dsk where
  g : Geo
  c : Cch
  fl : List Flt
  key : Int
  dead : Bool
  seen : Int
  count : Int
  s0 : Int
  s1 : Int
  s2 : Int
  s3 : Int
/-- What the beginning of an operation leaves. -/
structure Beg where
  p : Pow
  d : Dsk
  e : Int
  f : Flt
namespace Dsk
def new (g : Geo) (fl : List Flt) (p : Pow) : Dsk := ⟨g, ⟨Med.new g, []⟩, fl, 0, false, p.fails, 0, 0, 0, 0, 0⟩
def m (d : Dsk) : Med := d.c.d.ops d.c.l
/-- The error of a disk that is not ready. -/
def state (d : Dsk) (p : Pow) : Int := if d.dead then 14 else if p.off || decide (d.seen ≠ p.fails) then 13 else 0
def flt (d : Dsk) : Flt := fltAt d.fl d.count
def begin_ (d : Dsk) (p : Pow) (key : Int) : Beg :=
  if d.state p ≠ 0 then ⟨p, d, d.state p, ⟨0, 0, 0⟩⟩
  else if p.call.off then ⟨p.call, d, 13, ⟨0, 0, 0⟩⟩
  else if key ≠ d.key then ⟨p.call, d, 17, ⟨0, 0, 0⟩⟩
  else if d.flt.kind = 7 then ⟨p.call, { d with count := inc d.count, dead := true }, 14, d.flt⟩
  else if d.flt.kind = 6 then ⟨p.call, { d with count := inc d.count }, 16, d.flt⟩
  else ⟨p.call, { d with count := inc d.count }, 0, d.flt⟩
def has (d : Dsk) (a : Int) : Bool := decide (0 ≤ a ∧ a < d.g.size)
/-- The work of a read: the error, the bytes, the disk behind it. -/
def readTo (a : Int) (f : Flt) : Int := if f.kind = 5 then f.to else a
def readE (d : Dsk) (f : Flt) (a : Int) : Int := if d.has a = false then 2 else if f.kind = 4 then 15 else if d.m.readE (readTo a f) = 0 then 0 else 15
def readB (d : Dsk) (f : Flt) (a : Int) : List UInt8 := if d.readE f a = 0 then d.m.readB (readTo a f) else []
def readD (d : Dsk) (f : Flt) (a : Int) : Dsk := if d.readE f a = 0 then { d with s0 := inc d.s0 } else d
def writeE (d : Dsk) (a : Int) (b : List UInt8) : Int := if d.has a = false then 2 else if 64 < b.length then 7 else 0
def writeO (f : Flt) (a : Int) (b : List UInt8) : Opn := ⟨false, if f.kind = 3 then f.to else a, if f.kind = 2 then b.take (b.length / 2) else b⟩
def writeC (d : Dsk) (f : Flt) (a : Int) (b : List UInt8) (force : Bool) : Cch :=
  if f.kind = 1 then d.c else if d.has (writeO f a b).at_ = false then d.c else if force then (d.c.put (writeO f a b)).flush else d.c.put (writeO f a b)
def writeD (d : Dsk) (f : Flt) (a : Int) (b : List UInt8) (force : Bool) : Dsk := if d.writeE a b = 0 then { d with s1 := inc d.s1, c := d.writeC f a b force } else d
def eraseE (d : Dsk) (k : Int) : Int := d.m.eraseE k
def eraseD (d : Dsk) (k : Int) : Dsk := if d.eraseE k = 0 then { d with s2 := inc d.s2, c := d.c.put ⟨true, k, []⟩ } else d
def flushD (d : Dsk) : Dsk := { d with s3 := inc d.s3, c := d.c.flush }
end Dsk
end Go.Proofs.YtmloiifnadaaoaaGreat
