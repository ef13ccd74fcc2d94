/- What is proved: the functions of math/bits that the model stands in for yield sums and differences with their carries. -/
import Derived.Test.YtnnfiohdkobkdaaDoorZLBWE
import Derived.ProofKit
namespace Go.Sim.YtnnfiohdkobkdaaDoor
open Go.RowKit Go.Proofs Go.Proofs.Tryd
end Go.Sim.YtnnfiohdkobkdaaDoor
