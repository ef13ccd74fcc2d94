/- What is proved: ulp.Add, ulp.Mul and ulp.Round yield the words of the exact results, rounded. -/
import Derived.Test.YtlglkgineclggaaDoorZRTFltE
import Derived.Test.YtlglkgineclggaaDoorZRTWF3
namespace Go.Sim.YtlglkgineclggaaDoor
open Go.RowKit Go.Proofs Go.Proofs.Tryd
/-- Parts of a finite float that is not 0. -/
structure POk (p : GParts) (M : Nat) (X : Nat) : Prop where
  hM : p.M = (M : Int)
  h0 : M ≠ 0
  h1 : M < 9007199254740992
  hE : p.E = (X : Int) - 1074
  h2 : X ≤ 2045
  hc : 4503599627370496 ≤ M ∨ X = 0
end Go.Sim.YtlglkgineclggaaDoor
