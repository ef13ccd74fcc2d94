/- What is proved: what the functions of numbers compute (the program's: right, size, gcd, made, products, quotients), in words of the printed statements. -/
import Derived.Test.YtlglkgineclggaaZNWF3
import Derived.Test.YtlglkgineclggaaZNExtB
import Derived.Test.YtlglkgineclggaaZNDivX
import Derived.Test.YtlglkgineclggaaZNBig
import Derived.Test.YtlglkgineclggaaZNPureK
namespace Go.Sim.Ytlglkgineclggaa
open Go.RowKit Go.Proofs Go.Proofs.Try
def GRat.inI (a : GRat) : Prop := Sim.inI a.N ∧ Sim.inI a.D
def GRat.right (a : GRat) : Bool := rightS a.N a.D
abbrev GRat.p (a : GRat) : Int × Int := (a.N, a.D)
theorem wuM (n : Int) : IntKind.u64.wrap n = n % 18446744073709551616 := by simp only [IntKind.wrap, IntKind.bits, IntKind.signed, Bool.false_and, Bool.false_eq_true, if_false]; omega
end Go.Sim.Ytlglkgineclggaa
