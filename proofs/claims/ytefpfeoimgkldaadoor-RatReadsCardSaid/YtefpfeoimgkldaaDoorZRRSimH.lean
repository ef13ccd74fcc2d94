/- What is proved: operations on own slices of own slices, one after the other. -/
import Derived.Test.YtefpfeoimgkldaaDoorZRRSimG

namespace Go.Sim
open Go.RowKit
section
variable {P : Program} {N : Value → Prop} {T : Tab} {σ : St}
end
section
variable {P : Program} {N : Value → Prop} {T : Tab} {ops : Array Oper} {cf : Oper → Bool} {K : AExit → St → Prop} {o : Oper} {rest : List Oper} {L : List (Nat × AV)} {O : List (Nat × Obj)}
end
end Go.Sim
