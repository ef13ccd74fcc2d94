/-
  NARROWER THAN 'FOR EVERY INPUT', by the rows' own cells (each row's printed sentence says how): CheckClasses: loops · UnitReads: loops.
  DERIVED. THE GIVEN ROWS OF THIS SEAT. 8 by the template 'for every input the law returns true; each argument reads behind the call as it read before'; 0 by the template 'total and deterministic' (their statements: YtnhflokfcnfegaaTotals.lean).
  GIVEN WITH THE SEED: the statements are not yours to turn. If you find one false, say at which input.
  Laid BY PROGRAM, IN A SANDBOX (cutbox-rows.mjs): the forced cells as the released guide's own fill.sh prints them over the translation e934834babfbd47f… (all of the seat's roots in one cut). By AI agents, Wed Nov 11 2026. No macro, syntax, notation, axiom, sorry.
-/
import Derived.Test.YtnhflokfcnfegaaChecked
import GoSem.Claim
import GoSem.ClaimJoined
import GoSem.ClaimMapViews
import Derived.JoinedTies
import Derived.KernelRfl
namespace Go.Proofs.Ytnhflokfcnfegaa
/- THE CELL 'sum', in the pinned program and in every row, IS THE sha256 OF THE DUMP (.gsa) THAT YtnhflokfcnfegaaProg.lean LOADS. Nothing in Lean hashes anything: it is a label: what it is worth is what the hold of that sum in a sandbox is worth. -/
noncomputable def Try.pinned : Pinned := { name := "ytnhflokfcnfegaa", sum := "e934834babfbd47f6b5bf2fef67be85bc22fd331bd20a3e3c88ec506851a38f8", checked := Try.checked }
namespace Rows
def none {H : Type} : Left H := { results := [], args := [] }

/-- 'orrerylaw15.CheckClasses': WHATEVER THE INPUT: true; the input reads as it did. -/
def checkClassesSpec : ChangeSpec := { name := "checkClasses", fn := fun _ => fun
  | [d1, d2] => { results := [.lit (.bool true)], args := [d1, d2] }
  | _ => none }
def checkClassesRow : OpenClaim := { program := "ytnhflokfcnfegaa", sum := "e934834babfbd47f6b5bf2fef67be85bc22fd331bd20a3e3c88ec506851a38f8", func := "orrery/orrerylaw15.CheckClasses", spec := "checkClasses", unfollowed := true, recurses := true, loops := true, apart := false }
def CheckClassesSaid : Prop := checkClassesRow.holds Try.pinned (OpenSpec.ofChange checkClassesSpec)

/-- ITS FALSE NEIGHBOUR: 'it returns false'. Refute it at one input. -/
def checkClassesWrong : ChangeSpec := { name := "checkClasses", fn := fun _ => fun
  | [d1, d2] => { results := [.lit (.bool false)], args := [d1, d2] }
  | _ => none }
def CheckClassesWrongFalsely : Prop := checkClassesRow.holds Try.pinned (OpenSpec.ofChange checkClassesWrong)

/-- 'orrerylaw11.RatMakes': WHATEVER THE INPUT: true; the input reads as it did. -/
def ratMakesSpec : ChangeSpec := { name := "ratMakes", fn := fun _ => fun
  | [d1, d2, d3] => { results := [.lit (.bool true)], args := [d1, d2, d3] }
  | _ => none }
def ratMakesRow : OpenClaim := { program := "ytnhflokfcnfegaa", sum := "e934834babfbd47f6b5bf2fef67be85bc22fd331bd20a3e3c88ec506851a38f8", func := "orrery/orrerylaw11.RatMakes", spec := "ratMakes", apart := false }
def RatMakesSaid : Prop := ratMakesRow.holds Try.pinned (OpenSpec.ofChange ratMakesSpec)

/-- ITS FALSE NEIGHBOUR: 'it returns false'. Refute it at one input. -/
def ratMakesWrong : ChangeSpec := { name := "ratMakes", fn := fun _ => fun
  | [d1, d2, d3] => { results := [.lit (.bool false)], args := [d1, d2, d3] }
  | _ => none }
def RatMakesWrongFalsely : Prop := ratMakesRow.holds Try.pinned (OpenSpec.ofChange ratMakesWrong)

/-- 'orrerylaw11.RatPowers': WHATEVER THE INPUT: true; the input reads as it did. -/
def ratPowersSpec : ChangeSpec := { name := "ratPowers", fn := fun _ => fun
  | [d1, d2, d3] => { results := [.lit (.bool true)], args := [d1, d2, d3] }
  | _ => none }
def ratPowersRow : OpenClaim := { program := "ytnhflokfcnfegaa", sum := "e934834babfbd47f6b5bf2fef67be85bc22fd331bd20a3e3c88ec506851a38f8", func := "orrery/orrerylaw11.RatPowers", spec := "ratPowers", recurses := true, apart := false }
def RatPowersSaid : Prop := ratPowersRow.holds Try.pinned (OpenSpec.ofChange ratPowersSpec)

/-- ITS FALSE NEIGHBOUR: 'it returns false'. Refute it at one input. -/
def ratPowersWrong : ChangeSpec := { name := "ratPowers", fn := fun _ => fun
  | [d1, d2, d3] => { results := [.lit (.bool false)], args := [d1, d2, d3] }
  | _ => none }
def RatPowersWrongFalsely : Prop := ratPowersRow.holds Try.pinned (OpenSpec.ofChange ratPowersWrong)

/-- 'orrerylaw11.RatOrder': WHATEVER THE INPUT: true; the input reads as it did. -/
def ratOrderSpec : ChangeSpec := { name := "ratOrder", fn := fun _ => fun
  | [d1, d2, d3] => { results := [.lit (.bool true)], args := [d1, d2, d3] }
  | _ => none }
def ratOrderRow : OpenClaim := { program := "ytnhflokfcnfegaa", sum := "e934834babfbd47f6b5bf2fef67be85bc22fd331bd20a3e3c88ec506851a38f8", func := "orrery/orrerylaw11.RatOrder", spec := "ratOrder", inPlace := ["math/bits.Add64", "math/bits.Sub64"], named := ["math/bits.divideError", "math/bits.overflowError"], apart := false }
def RatOrderSaid : Prop := ratOrderRow.holds Try.pinned (OpenSpec.ofChange ratOrderSpec)

/-- ITS FALSE NEIGHBOUR: 'it returns false'. Refute it at one input. -/
def ratOrderWrong : ChangeSpec := { name := "ratOrder", fn := fun _ => fun
  | [d1, d2, d3] => { results := [.lit (.bool false)], args := [d1, d2, d3] }
  | _ => none }
def RatOrderWrongFalsely : Prop := ratOrderRow.holds Try.pinned (OpenSpec.ofChange ratOrderWrong)

/-- 'orrerylaw11.RatCounts': WHATEVER THE INPUT: true; the input reads as it did. -/
def ratCountsSpec : ChangeSpec := { name := "ratCounts", fn := fun _ => fun
  | [d1, d2] => { results := [.lit (.bool true)], args := [d1, d2] }
  | _ => none }
def ratCountsRow : OpenClaim := { program := "ytnhflokfcnfegaa", sum := "e934834babfbd47f6b5bf2fef67be85bc22fd331bd20a3e3c88ec506851a38f8", func := "orrery/orrerylaw11.RatCounts", spec := "ratCounts", inPlace := ["math/bits.Add64", "math/bits.Sub64"], named := ["math/bits.divideError", "math/bits.overflowError"], apart := false }
def RatCountsSaid : Prop := ratCountsRow.holds Try.pinned (OpenSpec.ofChange ratCountsSpec)

/-- ITS FALSE NEIGHBOUR: 'it returns false'. Refute it at one input. -/
def ratCountsWrong : ChangeSpec := { name := "ratCounts", fn := fun _ => fun
  | [d1, d2] => { results := [.lit (.bool false)], args := [d1, d2] }
  | _ => none }
def RatCountsWrongFalsely : Prop := ratCountsRow.holds Try.pinned (OpenSpec.ofChange ratCountsWrong)

/-- 'orrerylaw14.UnitBack': WHATEVER THE INPUT: true; the input reads as it did. -/
def unitBackSpec : ChangeSpec := { name := "unitBack", fn := fun _ => fun
  | [d1, d2, d3, d4] => { results := [.lit (.bool true)], args := [d1, d2, d3, d4] }
  | _ => none }
def unitBackRow : OpenClaim := { program := "ytnhflokfcnfegaa", sum := "e934834babfbd47f6b5bf2fef67be85bc22fd331bd20a3e3c88ec506851a38f8", func := "orrery/orrerylaw14.UnitBack", spec := "unitBack", inPlace := ["math/bits.Add64", "math/bits.Sub64"], named := ["math/bits.divideError", "math/bits.overflowError"], apart := false }
def UnitBackSaid : Prop := unitBackRow.holds Try.pinned (OpenSpec.ofChange unitBackSpec)

/-- ITS FALSE NEIGHBOUR: 'it returns false'. Refute it at one input. -/
def unitBackWrong : ChangeSpec := { name := "unitBack", fn := fun _ => fun
  | [d1, d2, d3, d4] => { results := [.lit (.bool false)], args := [d1, d2, d3, d4] }
  | _ => none }
def UnitBackWrongFalsely : Prop := unitBackRow.holds Try.pinned (OpenSpec.ofChange unitBackWrong)

/-- 'orrerylaw14.UnitTimes': WHATEVER THE INPUT: true; the input reads as it did. -/
def unitTimesSpec : ChangeSpec := { name := "unitTimes", fn := fun _ => fun
  | [d1, d2, d3] => { results := [.lit (.bool true)], args := [d1, d2, d3] }
  | _ => none }
def unitTimesRow : OpenClaim := { program := "ytnhflokfcnfegaa", sum := "e934834babfbd47f6b5bf2fef67be85bc22fd331bd20a3e3c88ec506851a38f8", func := "orrery/orrerylaw14.UnitTimes", spec := "unitTimes", inPlace := ["math/bits.Add64", "math/bits.Sub64"], named := ["math/bits.divideError", "math/bits.overflowError"], apart := false }
def UnitTimesSaid : Prop := unitTimesRow.holds Try.pinned (OpenSpec.ofChange unitTimesSpec)

/-- ITS FALSE NEIGHBOUR: 'it returns false'. Refute it at one input. -/
def unitTimesWrong : ChangeSpec := { name := "unitTimes", fn := fun _ => fun
  | [d1, d2, d3] => { results := [.lit (.bool false)], args := [d1, d2, d3] }
  | _ => none }
def UnitTimesWrongFalsely : Prop := unitTimesRow.holds Try.pinned (OpenSpec.ofChange unitTimesWrong)

/-- 'orrerylaw14.UnitReads': WHATEVER THE INPUT: true; the input reads as it did. -/
def unitReadsSpec : ChangeSpec := { name := "unitReads", fn := fun _ => fun
  | [d1, d2, d3] => { results := [.lit (.bool true)], args := [d1, d2, d3] }
  | _ => none }
def unitReadsRow : OpenClaim := { program := "ytnhflokfcnfegaa", sum := "e934834babfbd47f6b5bf2fef67be85bc22fd331bd20a3e3c88ec506851a38f8", func := "orrery/orrerylaw14.UnitReads", spec := "unitReads", inPlace := ["math/bits.Add64", "math/bits.Sub64"], unfollowed := true, recurses := true, named := ["math/bits.divideError", "math/bits.overflowError"], loops := true, apart := false }
def UnitReadsSaid : Prop := unitReadsRow.holds Try.pinned (OpenSpec.ofChange unitReadsSpec)

/-- ITS FALSE NEIGHBOUR: 'it returns false'. Refute it at one input. -/
def unitReadsWrong : ChangeSpec := { name := "unitReads", fn := fun _ => fun
  | [d1, d2, d3] => { results := [.lit (.bool false)], args := [d1, d2, d3] }
  | _ => none }
def UnitReadsWrongFalsely : Prop := unitReadsRow.holds Try.pinned (OpenSpec.ofChange unitReadsWrong)

/- THE SECOND FORM. 'bulk': how many values and letters a reading holds, each counted each time it is reached (what is shared counts as often as it is met; a slice's spare places count too). A statement '..UptoSaid' is the law's where the arguments, and the package variables that the reading takes, are together of bulk at most 1048576: NARROWER than '..Said'. Prove '..Said' where nothing that the law and all that it calls make is longer than what came in: it says more and counts as full. Else prove '..UptoSaid'. A law counts once. -/
mutual
def uptoBulk {H : Type} : DataW H → Nat
  | .lit (.string bytes) => bytes.length + 1
  | .lit _ => 1
  | .nil => 1
  | .ptr d => uptoBulk d + 1
  | .slice elems spare => uptoBulkAll elems + uptoBulkAll spare + 1
  | .agg parts => uptoBulkAll parts + 1
  | .iface _ d => uptoBulk d + 1
  | .map entries => uptoBulkEntries entries + 1
  | .held _ => 1
def uptoBulkAll {H : Type} : List (DataW H) → Nat
  | [] => 0
  | d :: r => uptoBulk d + uptoBulkAll r
def uptoBulkEntries {H : Type} : List (Lit × DataW H) → Nat
  | [] => 0
  | x :: r => uptoBulkEntry x + uptoBulkEntries r
def uptoBulkEntry {H : Type} : Lit × DataW H → Nat
  | (.string bytes, d) => bytes.length + uptoBulk d + 1
  | (_, d) => uptoBulk d + 1
 end
def uptoSmall : (H : Type) → List (DataW H) → Bool := fun _ ds => decide (uptoBulkAll ds ≤ 1048576)
def OpenSpec.upto (s : _root_.Go.ChangeSpec) : _root_.Go.OpenSpec := { _root_.Go.OpenSpec.ofChange s with cond := some uptoSmall }

/-- 'orrerylaw15.CheckClasses', WHERE WHAT IT READS IS OF BULK AT MOST 1048576: true; the input reads as it did. -/
def checkClassesUptoRow : OpenClaim := { program := "ytnhflokfcnfegaa", sum := "e934834babfbd47f6b5bf2fef67be85bc22fd331bd20a3e3c88ec506851a38f8", func := "orrery/orrerylaw15.CheckClasses", spec := "checkClasses", unfollowed := true, recurses := true, loops := true, apart := false, narrowed := true }
def CheckClassesUptoSaid : Prop := checkClassesUptoRow.holds Try.pinned (OpenSpec.upto checkClassesSpec)

/-- 'orrerylaw11.RatMakes', WHERE WHAT IT READS IS OF BULK AT MOST 1048576: true; the input reads as it did. -/
def ratMakesUptoRow : OpenClaim := { program := "ytnhflokfcnfegaa", sum := "e934834babfbd47f6b5bf2fef67be85bc22fd331bd20a3e3c88ec506851a38f8", func := "orrery/orrerylaw11.RatMakes", spec := "ratMakes", apart := false, narrowed := true }
def RatMakesUptoSaid : Prop := ratMakesUptoRow.holds Try.pinned (OpenSpec.upto ratMakesSpec)

/-- 'orrerylaw11.RatPowers', WHERE WHAT IT READS IS OF BULK AT MOST 1048576: true; the input reads as it did. -/
def ratPowersUptoRow : OpenClaim := { program := "ytnhflokfcnfegaa", sum := "e934834babfbd47f6b5bf2fef67be85bc22fd331bd20a3e3c88ec506851a38f8", func := "orrery/orrerylaw11.RatPowers", spec := "ratPowers", recurses := true, apart := false, narrowed := true }
def RatPowersUptoSaid : Prop := ratPowersUptoRow.holds Try.pinned (OpenSpec.upto ratPowersSpec)

/-- 'orrerylaw11.RatOrder', WHERE WHAT IT READS IS OF BULK AT MOST 1048576: true; the input reads as it did. -/
def ratOrderUptoRow : OpenClaim := { program := "ytnhflokfcnfegaa", sum := "e934834babfbd47f6b5bf2fef67be85bc22fd331bd20a3e3c88ec506851a38f8", func := "orrery/orrerylaw11.RatOrder", spec := "ratOrder", inPlace := ["math/bits.Add64", "math/bits.Sub64"], named := ["math/bits.divideError", "math/bits.overflowError"], apart := false, narrowed := true }
def RatOrderUptoSaid : Prop := ratOrderUptoRow.holds Try.pinned (OpenSpec.upto ratOrderSpec)

/-- 'orrerylaw11.RatCounts', WHERE WHAT IT READS IS OF BULK AT MOST 1048576: true; the input reads as it did. -/
def ratCountsUptoRow : OpenClaim := { program := "ytnhflokfcnfegaa", sum := "e934834babfbd47f6b5bf2fef67be85bc22fd331bd20a3e3c88ec506851a38f8", func := "orrery/orrerylaw11.RatCounts", spec := "ratCounts", inPlace := ["math/bits.Add64", "math/bits.Sub64"], named := ["math/bits.divideError", "math/bits.overflowError"], apart := false, narrowed := true }
def RatCountsUptoSaid : Prop := ratCountsUptoRow.holds Try.pinned (OpenSpec.upto ratCountsSpec)

/-- 'orrerylaw14.UnitBack', WHERE WHAT IT READS IS OF BULK AT MOST 1048576: true; the input reads as it did. -/
def unitBackUptoRow : OpenClaim := { program := "ytnhflokfcnfegaa", sum := "e934834babfbd47f6b5bf2fef67be85bc22fd331bd20a3e3c88ec506851a38f8", func := "orrery/orrerylaw14.UnitBack", spec := "unitBack", inPlace := ["math/bits.Add64", "math/bits.Sub64"], named := ["math/bits.divideError", "math/bits.overflowError"], apart := false, narrowed := true }
def UnitBackUptoSaid : Prop := unitBackUptoRow.holds Try.pinned (OpenSpec.upto unitBackSpec)

/-- 'orrerylaw14.UnitTimes', WHERE WHAT IT READS IS OF BULK AT MOST 1048576: true; the input reads as it did. -/
def unitTimesUptoRow : OpenClaim := { program := "ytnhflokfcnfegaa", sum := "e934834babfbd47f6b5bf2fef67be85bc22fd331bd20a3e3c88ec506851a38f8", func := "orrery/orrerylaw14.UnitTimes", spec := "unitTimes", inPlace := ["math/bits.Add64", "math/bits.Sub64"], named := ["math/bits.divideError", "math/bits.overflowError"], apart := false, narrowed := true }
def UnitTimesUptoSaid : Prop := unitTimesUptoRow.holds Try.pinned (OpenSpec.upto unitTimesSpec)

/-- 'orrerylaw14.UnitReads', WHERE WHAT IT READS IS OF BULK AT MOST 1048576: true; the input reads as it did. -/
def unitReadsUptoRow : OpenClaim := { program := "ytnhflokfcnfegaa", sum := "e934834babfbd47f6b5bf2fef67be85bc22fd331bd20a3e3c88ec506851a38f8", func := "orrery/orrerylaw14.UnitReads", spec := "unitReads", inPlace := ["math/bits.Add64", "math/bits.Sub64"], unfollowed := true, recurses := true, named := ["math/bits.divideError", "math/bits.overflowError"], loops := true, apart := false, narrowed := true }
def UnitReadsUptoSaid : Prop := unitReadsUptoRow.holds Try.pinned (OpenSpec.upto unitReadsSpec)

end Rows
end Go.Proofs.Ytnhflokfcnfegaa
