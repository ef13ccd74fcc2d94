/- What is proved: a function of the statement about products, as a value, does what it does when called by name. -/
import Derived.Test.YtlglkgineclggaaZNWE
namespace Go.Sim.Ytlglkgineclggaa
open Go.RowKit Go.Proofs Go.Proofs.Try
end Go.Sim.Ytlglkgineclggaa
