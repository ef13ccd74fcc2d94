/- What is asked of the package variables that this seat's functions read: strconv's two errors are errors. -/
import Derived.Test.YtefpfeoimgkldaaDoorProg
import Derived.Below

namespace Go.Sim
structure GW (w : World) : Prop where
  err4 : ∃ t p, w.cell? ⟨0, 0, none⟩ = some (.iface t p)
  err5 : ∃ t p, w.cell? ⟨1, 0, none⟩ = some (.iface t p)
end Go.Sim
