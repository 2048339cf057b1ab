/- ref03.Bytes, Digest, Sealed, Seal: contracts, no statement of the seat. -/
import Derived.Test.YtfllcohnfboccaaGreatSum01G
import Derived.Test.YtfllcohnfboccaaGreatPinsOK03G
namespace Go.Proofs.YtfllcohnfboccaaGreat
open Go.RowKit Go.Sort

def pinL (p : PinD) : List UInt8 := int8 p.1 ++ int8 p.2.1 ++ int8 p.2.2.size ++ strL p.2.2
def pinsL (l : List PinD) : List UInt8 := l.flatMap pinL
/-- A statement's bytes. -/
def stB (s : St) : List UInt8 :=
  (((((((((((((int8 s.author ++ int8 s.number) ++ int8 s.prev.size) ++ strL s.prev) ++ int8 s.time) ++ int8 s.kind) ++ int8 s.a) ++ int8 s.b) ++ int8 s.c) ++ int8 s.list.length) ++ intsB s.list) ++ int8 s.pins.length) ++ pinsL s.pins) ++ int8 s.body.size) ++ strL s.body
/-- No part of it is great. -/
structure Tame (s : St) : Prop where
  list : s.list.length ≤ 10000
  pins : s.pins.length ≤ 1000
  prev : s.prev.size ≤ 100000
  body : s.body.size ≤ 100000
  digs : ∀ p ∈ s.pins, p.2.2.size ≤ 1000
end Go.Proofs.YtfllcohnfboccaaGreat
