/-
  No cell of these rows narrows 'for every input' (looked for: loops, veiled, ifaces, maps, wideKeys, modest, calm, conditions, laid).
  DERIVED. THE GIVEN ROWS OF THIS SEAT. 6 by the template 'for every input the law returns true; each argument reads behind the call as it read before'; 0 by the template 'total and deterministic' (their statements: YtlglkgineclggaaTotals.lean).
  GIVEN WITH THE SEED: the statements are not yours to turn. If you find one false, say at which input.
  Laid BY PROGRAM, IN A SANDBOX (cutbox-rows.mjs): the forced cells as the released guide's own fill.sh prints them over the translation 2c00f17c99fe7632… (all of the seat's roots in one cut). By AI agents, Wed Nov 11 2026. No macro, syntax, notation, axiom, sorry.
-/
import Derived.Test.YtlglkgineclggaaChecked
import GoSem.Claim
import GoSem.ClaimJoined
import GoSem.ClaimMapViews
import Derived.JoinedTies
import Derived.KernelRfl
namespace Go.Proofs.Ytlglkgineclggaa
/- THE CELL 'sum', in the pinned program and in every row, IS THE sha256 OF THE DUMP (.gsa) THAT YtlglkgineclggaaProg.lean LOADS. Nothing in Lean hashes anything: it is a label: what it is worth is what the hold of that sum in a sandbox is worth. -/
noncomputable def Try.pinned : Pinned := { name := "ytlglkgineclggaa", sum := "2c00f17c99fe7632f2f63d73bfc4bd39d696b763394e3ed9a4c66e3cfa4c733f", checked := Try.checked }
namespace Rows
def none {H : Type} : Left H := { results := [], args := [] }

/-- 'orrerylaw04.LinNorms': WHATEVER THE INPUT: true; the input reads as it did. -/
def linNormsSpec : ChangeSpec := { name := "linNorms", fn := fun _ => fun
  | [d1, d2, d3] => { results := [.lit (.bool true)], args := [d1, d2, d3] }
  | _ => none }
def linNormsRow : OpenClaim := { program := "ytlglkgineclggaa", sum := "2c00f17c99fe7632f2f63d73bfc4bd39d696b763394e3ed9a4c66e3cfa4c733f", func := "orrery/orrerylaw04.LinNorms", spec := "linNorms", inPlace := ["math.Float64frombits", "math.Float64bits", "math/bits.Add64", "math/bits.Sub64"], apart := false }
def LinNormsSaid : Prop := linNormsRow.holds Try.pinned (OpenSpec.ofChange linNormsSpec)

/-- ITS FALSE NEIGHBOUR: 'it returns false'. Refute it at one input. -/
def linNormsWrong : ChangeSpec := { name := "linNorms", fn := fun _ => fun
  | [d1, d2, d3] => { results := [.lit (.bool false)], args := [d1, d2, d3] }
  | _ => none }
def LinNormsWrongFalsely : Prop := linNormsRow.holds Try.pinned (OpenSpec.ofChange linNormsWrong)

/-- 'orrerylaw04.LinProducts': WHATEVER THE INPUT: true; the input reads as it did. -/
def linProductsSpec : ChangeSpec := { name := "linProducts", fn := fun _ => fun
  | [d1, d2, d3] => { results := [.lit (.bool true)], args := [d1, d2, d3] }
  | _ => none }
def linProductsRow : OpenClaim := { program := "ytlglkgineclggaa", sum := "2c00f17c99fe7632f2f63d73bfc4bd39d696b763394e3ed9a4c66e3cfa4c733f", func := "orrery/orrerylaw04.LinProducts", spec := "linProducts", inPlace := ["math.Float64frombits", "math.Float64bits", "math/bits.Add64", "math/bits.Sub64"], unfollowed := true, recurses := true, apart := false }
def LinProductsSaid : Prop := linProductsRow.holds Try.pinned (OpenSpec.ofChange linProductsSpec)

/-- ITS FALSE NEIGHBOUR: 'it returns false'. Refute it at one input. -/
def linProductsWrong : ChangeSpec := { name := "linProducts", fn := fun _ => fun
  | [d1, d2, d3] => { results := [.lit (.bool false)], args := [d1, d2, d3] }
  | _ => none }
def LinProductsWrongFalsely : Prop := linProductsRow.holds Try.pinned (OpenSpec.ofChange linProductsWrong)

/-- 'orrerylaw14.UnitInfers': WHATEVER THE INPUT: true; the input reads as it did. -/
def unitInfersSpec : ChangeSpec := { name := "unitInfers", fn := fun _ => fun
  | [d1, d2, d3, d4, d5] => { results := [.lit (.bool true)], args := [d1, d2, d3, d4, d5] }
  | _ => none }
def unitInfersRow : OpenClaim := { program := "ytlglkgineclggaa", sum := "2c00f17c99fe7632f2f63d73bfc4bd39d696b763394e3ed9a4c66e3cfa4c733f", func := "orrery/orrerylaw14.UnitInfers", spec := "unitInfers", inPlace := ["math/bits.Add64", "math/bits.Sub64"], unfollowed := true, recurses := true, named := ["math/bits.divideError", "math/bits.overflowError"], apart := false }
def UnitInfersSaid : Prop := unitInfersRow.holds Try.pinned (OpenSpec.ofChange unitInfersSpec)

/-- ITS FALSE NEIGHBOUR: 'it returns false'. Refute it at one input. -/
def unitInfersWrong : ChangeSpec := { name := "unitInfers", fn := fun _ => fun
  | [d1, d2, d3, d4, d5] => { results := [.lit (.bool false)], args := [d1, d2, d3, d4, d5] }
  | _ => none }
def UnitInfersWrongFalsely : Prop := unitInfersRow.holds Try.pinned (OpenSpec.ofChange unitInfersWrong)

/-- 'orrerylaw04.LinGrows': WHATEVER THE INPUT: true; the input reads as it did. -/
def linGrowsSpec : ChangeSpec := { name := "linGrows", fn := fun _ => fun
  | [d1, d2] => { results := [.lit (.bool true)], args := [d1, d2] }
  | _ => none }
def linGrowsRow : OpenClaim := { program := "ytlglkgineclggaa", sum := "2c00f17c99fe7632f2f63d73bfc4bd39d696b763394e3ed9a4c66e3cfa4c733f", func := "orrery/orrerylaw04.LinGrows", spec := "linGrows", inPlace := ["math.Float64frombits", "math.Float64bits", "math/bits.Add64", "math/bits.Sub64"], unfollowed := true, recurses := true, apart := false }
def LinGrowsSaid : Prop := linGrowsRow.holds Try.pinned (OpenSpec.ofChange linGrowsSpec)

/-- ITS FALSE NEIGHBOUR: 'it returns false'. Refute it at one input. -/
def linGrowsWrong : ChangeSpec := { name := "linGrows", fn := fun _ => fun
  | [d1, d2] => { results := [.lit (.bool false)], args := [d1, d2] }
  | _ => none }
def LinGrowsWrongFalsely : Prop := linGrowsRow.holds Try.pinned (OpenSpec.ofChange linGrowsWrong)

/-- 'orrerylaw14.UnitFits': WHATEVER THE INPUT: true; the input reads as it did. -/
def unitFitsSpec : ChangeSpec := { name := "unitFits", fn := fun _ => fun
  | [d1, d2, d3, d4, d5] => { results := [.lit (.bool true)], args := [d1, d2, d3, d4, d5] }
  | _ => none }
def unitFitsRow : OpenClaim := { program := "ytlglkgineclggaa", sum := "2c00f17c99fe7632f2f63d73bfc4bd39d696b763394e3ed9a4c66e3cfa4c733f", func := "orrery/orrerylaw14.UnitFits", spec := "unitFits", inPlace := ["math.Float64frombits", "math.Float64bits", "math/bits.Add64", "math/bits.Sub64"], unfollowed := true, recurses := true, named := ["math/bits.divideError", "math/bits.overflowError"], apart := false }
def UnitFitsSaid : Prop := unitFitsRow.holds Try.pinned (OpenSpec.ofChange unitFitsSpec)

/-- ITS FALSE NEIGHBOUR: 'it returns false'. Refute it at one input. -/
def unitFitsWrong : ChangeSpec := { name := "unitFits", fn := fun _ => fun
  | [d1, d2, d3, d4, d5] => { results := [.lit (.bool false)], args := [d1, d2, d3, d4, d5] }
  | _ => none }
def UnitFitsWrongFalsely : Prop := unitFitsRow.holds Try.pinned (OpenSpec.ofChange unitFitsWrong)

/-- 'orrerylaw11.RatBack': WHATEVER THE INPUT: true; the input reads as it did. -/
def ratBackSpec : ChangeSpec := { name := "ratBack", fn := fun _ => fun
  | [d1, d2] => { results := [.lit (.bool true)], args := [d1, d2] }
  | _ => none }
def ratBackRow : OpenClaim := { program := "ytlglkgineclggaa", sum := "2c00f17c99fe7632f2f63d73bfc4bd39d696b763394e3ed9a4c66e3cfa4c733f", func := "orrery/orrerylaw11.RatBack", spec := "ratBack", inPlace := ["math/bits.Add64", "math/bits.Sub64", "math.Float64frombits", "math.Float64bits"], unfollowed := true, recurses := true, named := ["math/bits.divideError", "math/bits.overflowError"], apart := false }
def RatBackSaid : Prop := ratBackRow.holds Try.pinned (OpenSpec.ofChange ratBackSpec)

/-- ITS FALSE NEIGHBOUR: 'it returns false'. Refute it at one input. -/
def ratBackWrong : ChangeSpec := { name := "ratBack", fn := fun _ => fun
  | [d1, d2] => { results := [.lit (.bool false)], args := [d1, d2] }
  | _ => none }
def RatBackWrongFalsely : Prop := ratBackRow.holds Try.pinned (OpenSpec.ofChange ratBackWrong)

/- THE SECOND FORM. 'bulk': how many values and letters a reading holds, each counted each time it is reached (what is shared counts as often as it is met; a slice's spare places count too). A statement '..UptoSaid' is the law's where the arguments, and the package variables that the reading takes, are together of bulk at most 1048576: NARROWER than '..Said'. Prove '..Said' where nothing that the law and all that it calls make is longer than what came in: it says more and counts as full. Else prove '..UptoSaid'. A law counts once. -/
mutual
def uptoBulk {H : Type} : DataW H → Nat
  | .lit (.string bytes) => bytes.length + 1
  | .lit _ => 1
  | .nil => 1
  | .ptr d => uptoBulk d + 1
  | .slice elems spare => uptoBulkAll elems + uptoBulkAll spare + 1
  | .agg parts => uptoBulkAll parts + 1
  | .iface _ d => uptoBulk d + 1
  | .map entries => uptoBulkEntries entries + 1
  | .held _ => 1
def uptoBulkAll {H : Type} : List (DataW H) → Nat
  | [] => 0
  | d :: r => uptoBulk d + uptoBulkAll r
def uptoBulkEntries {H : Type} : List (Lit × DataW H) → Nat
  | [] => 0
  | x :: r => uptoBulkEntry x + uptoBulkEntries r
def uptoBulkEntry {H : Type} : Lit × DataW H → Nat
  | (.string bytes, d) => bytes.length + uptoBulk d + 1
  | (_, d) => uptoBulk d + 1
 end
def uptoSmall : (H : Type) → List (DataW H) → Bool := fun _ ds => decide (uptoBulkAll ds ≤ 1048576)
def OpenSpec.upto (s : _root_.Go.ChangeSpec) : _root_.Go.OpenSpec := { _root_.Go.OpenSpec.ofChange s with cond := some uptoSmall }

/-- 'orrerylaw04.LinNorms', WHERE WHAT IT READS IS OF BULK AT MOST 1048576: true; the input reads as it did. -/
def linNormsUptoRow : OpenClaim := { program := "ytlglkgineclggaa", sum := "2c00f17c99fe7632f2f63d73bfc4bd39d696b763394e3ed9a4c66e3cfa4c733f", func := "orrery/orrerylaw04.LinNorms", spec := "linNorms", inPlace := ["math.Float64frombits", "math.Float64bits", "math/bits.Add64", "math/bits.Sub64"], apart := false, narrowed := true }
def LinNormsUptoSaid : Prop := linNormsUptoRow.holds Try.pinned (OpenSpec.upto linNormsSpec)

/-- 'orrerylaw04.LinProducts', WHERE WHAT IT READS IS OF BULK AT MOST 1048576: true; the input reads as it did. -/
def linProductsUptoRow : OpenClaim := { program := "ytlglkgineclggaa", sum := "2c00f17c99fe7632f2f63d73bfc4bd39d696b763394e3ed9a4c66e3cfa4c733f", func := "orrery/orrerylaw04.LinProducts", spec := "linProducts", inPlace := ["math.Float64frombits", "math.Float64bits", "math/bits.Add64", "math/bits.Sub64"], unfollowed := true, recurses := true, apart := false, narrowed := true }
def LinProductsUptoSaid : Prop := linProductsUptoRow.holds Try.pinned (OpenSpec.upto linProductsSpec)

/-- 'orrerylaw14.UnitInfers', WHERE WHAT IT READS IS OF BULK AT MOST 1048576: true; the input reads as it did. -/
def unitInfersUptoRow : OpenClaim := { program := "ytlglkgineclggaa", sum := "2c00f17c99fe7632f2f63d73bfc4bd39d696b763394e3ed9a4c66e3cfa4c733f", func := "orrery/orrerylaw14.UnitInfers", spec := "unitInfers", inPlace := ["math/bits.Add64", "math/bits.Sub64"], unfollowed := true, recurses := true, named := ["math/bits.divideError", "math/bits.overflowError"], apart := false, narrowed := true }
def UnitInfersUptoSaid : Prop := unitInfersUptoRow.holds Try.pinned (OpenSpec.upto unitInfersSpec)

/-- 'orrerylaw04.LinGrows', WHERE WHAT IT READS IS OF BULK AT MOST 1048576: true; the input reads as it did. -/
def linGrowsUptoRow : OpenClaim := { program := "ytlglkgineclggaa", sum := "2c00f17c99fe7632f2f63d73bfc4bd39d696b763394e3ed9a4c66e3cfa4c733f", func := "orrery/orrerylaw04.LinGrows", spec := "linGrows", inPlace := ["math.Float64frombits", "math.Float64bits", "math/bits.Add64", "math/bits.Sub64"], unfollowed := true, recurses := true, apart := false, narrowed := true }
def LinGrowsUptoSaid : Prop := linGrowsUptoRow.holds Try.pinned (OpenSpec.upto linGrowsSpec)

/-- 'orrerylaw14.UnitFits', WHERE WHAT IT READS IS OF BULK AT MOST 1048576: true; the input reads as it did. -/
def unitFitsUptoRow : OpenClaim := { program := "ytlglkgineclggaa", sum := "2c00f17c99fe7632f2f63d73bfc4bd39d696b763394e3ed9a4c66e3cfa4c733f", func := "orrery/orrerylaw14.UnitFits", spec := "unitFits", inPlace := ["math.Float64frombits", "math.Float64bits", "math/bits.Add64", "math/bits.Sub64"], unfollowed := true, recurses := true, named := ["math/bits.divideError", "math/bits.overflowError"], apart := false, narrowed := true }
def UnitFitsUptoSaid : Prop := unitFitsUptoRow.holds Try.pinned (OpenSpec.upto unitFitsSpec)

/-- 'orrerylaw11.RatBack', WHERE WHAT IT READS IS OF BULK AT MOST 1048576: true; the input reads as it did. -/
def ratBackUptoRow : OpenClaim := { program := "ytlglkgineclggaa", sum := "2c00f17c99fe7632f2f63d73bfc4bd39d696b763394e3ed9a4c66e3cfa4c733f", func := "orrery/orrerylaw11.RatBack", spec := "ratBack", inPlace := ["math/bits.Add64", "math/bits.Sub64", "math.Float64frombits", "math.Float64bits"], unfollowed := true, recurses := true, named := ["math/bits.divideError", "math/bits.overflowError"], apart := false, narrowed := true }
def RatBackUptoSaid : Prop := ratBackUptoRow.holds Try.pinned (OpenSpec.upto ratBackSpec)

end Rows
end Go.Proofs.Ytlglkgineclggaa
