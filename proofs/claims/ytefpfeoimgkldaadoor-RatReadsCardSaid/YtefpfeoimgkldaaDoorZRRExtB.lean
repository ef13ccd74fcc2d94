/- What is proved: the functions of math/bits that the model stands in for yield sums and differences with their carries. -/
import Derived.Test.YtefpfeoimgkldaaDoorZRRWE
import Derived.ProofKit

namespace Go.Sim.YtefpfeoimgkldaaDoor
open Go.RowKit Go.Proofs Go.Proofs.Tryd
end Go.Sim.YtefpfeoimgkldaaDoor
