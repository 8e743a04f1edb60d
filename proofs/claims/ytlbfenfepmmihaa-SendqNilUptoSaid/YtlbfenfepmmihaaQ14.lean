/- Part 14 of what the closing text rests on. -/
import Derived.Test.YtlbfenfepmmihaaQ13
namespace Go.ZM
open Go.Z Go.ZR
end Go.ZM
namespace Go.ZR
open Go.Z Go.ZM Go.Proofs
end Go.ZR

set_option maxRecDepth 100000
namespace Go.ZM
open Go.Z Go.ZR

structure HelR where
  tag : Int
  win : Int
  out : Int
  inn : Int
  tsn : Int
  cookie : List Int
def numAt (v : List Int) (i : Int) (k : Nat) : Int := (getF v i k).1
end Go.ZM

set_option maxRecDepth 100000
namespace Go.ZR
open Go.Z Go.ZM Go.Proofs
end Go.ZR
