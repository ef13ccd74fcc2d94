/- What is asked of the package variables that this seat's functions read: strconv's powers of ten are as laid. -/
import Derived.Test.YtlglkgineclggaaDoorProg
import Derived.Below
import Derived.Lib.LaidTab
import Derived.Lib.ItoaNum
namespace Go.Sim
def GW (w : World) : Prop := Lib.TabIs Go.Proofs.Tryd.prog w "internal/strconv.uint64pow10" .u64 Lib.pow10Tab
end Go.Sim
