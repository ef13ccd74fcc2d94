/- What is asked of the package variables that this seat's functions read: nothing. -/
import Derived.Below

namespace Go.Sim
def GW (_ : World) : Prop := True
end Go.Sim
