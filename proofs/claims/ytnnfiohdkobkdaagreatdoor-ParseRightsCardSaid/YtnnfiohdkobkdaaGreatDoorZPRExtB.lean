/- What is proved: the functions of math/bits that the model stands in for yield sums and differences with their carries. -/
import Derived.Test.YtnnfiohdkobkdaaGreatDoorZPRWE
import Derived.ProofKit

namespace Go.Sim.YtnnfiohdkobkdaaGreatDoor
open Go.RowKit Go.Proofs Go.Proofs.Tryz
end Go.Sim.YtnnfiohdkobkdaaGreatDoor
