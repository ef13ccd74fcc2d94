/- What is proved: the program's structs as Lean's, how they lie in memory, and their equality. -/
import Derived.Test.YtefpfeoimgkldaaDoorZRRTab

namespace Go.Sim.YtefpfeoimgkldaaDoor
open Go.RowKit Go.Proofs Go.Proofs.Tryd
set_option maxRecDepth 100000
structure GRat where
  N : Int
  D : Int
abbrev GRat.zero : GRat := ⟨(0 : Int), (0 : Int)⟩
abbrev GRat.enc (x : GRat) : DV := .st [1, 1] [.v (.int .i64 x.N), .v (.int .i64 x.D)]
def GRat.beq (x y : GRat) : Bool := (x.N == y.N) && ((x.D == y.D) && true)
theorem GRat.eqok23 (d : Nat) (x y : GRat) : EqOk prog (d + 2) 23 (GRat.enc x) (GRat.enc y) (GRat.beq x y) :=
  EqOk.struct tabOk Tryd.underlying23 (by decide +kernel) ⟨by decide, rfl, ⟨te2, rfl, rfl, rfl⟩, _, _, (EqOk.int ok2 rfl), ⟨by decide, rfl, ⟨te2, rfl, rfl, rfl⟩, _, _, (EqOk.int ok2 rfl), rfl, rfl⟩, rfl⟩
theorem GRat.beq_iff (x y : GRat) : GRat.beq x y = true ↔ x = y := by
  cases x; cases y; simp [GRat.beq]
def GRat.ok (x : GRat) : Prop := okInt .i64 x.N ∧ okInt .i64 x.D
end Go.Sim.YtefpfeoimgkldaaDoor
