/- What is asked of the package variables that this seat's functions read: strings' table of blanks is as laid; strconv's two errors are errors. -/
import Derived.Test.YtnnfiohdkobkdaaDoorProg
import Derived.Below
import Derived.Lib.LaidTab
import Derived.Lib.Space
namespace Go.Sim
structure GW (w : World) : Prop where
  blanks : Lib.TabIs Go.Proofs.Tryd.prog w "strings.asciiSpace" .u8 Lib.asciiSpaceTab
  err4 : ∃ t p, w.cell? ⟨4, 0, none⟩ = some (.iface t p)
  err5 : ∃ t p, w.cell? ⟨5, 0, none⟩ = some (.iface t p)
end Go.Sim
