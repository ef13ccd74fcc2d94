/- What is proved: the program's structs as Lean's, how they lie in memory, and their equality. -/
import Derived.Test.YtlglkgineclggaaDoorZRTTab
namespace Go.Sim.YtlglkgineclggaaDoor
open Go.RowKit Go.Proofs Go.Proofs.Tryd
set_option maxRecDepth 100000
structure GRat where
  N : Int
  D : Int
abbrev GRat.zero : GRat := ⟨(0 : Int), (0 : Int)⟩
abbrev GRat.enc (x : GRat) : DV := .st [1, 1] [.v (.int .i64 x.N), .v (.int .i64 x.D)]
def GRat.beq (x y : GRat) : Bool := (x.N == y.N) && ((x.D == y.D) && true)
structure GIval where
  Lo : Nat
  Hi : Nat
abbrev GIval.zero : GIval := ⟨(0 : Nat), (0 : Nat)⟩
abbrev GIval.enc (x : GIval) : DV := .st [1, 1] [.v (.float .f64 x.Lo), .v (.float .f64 x.Hi)]
def GIval.beq (x y : GIval) : Bool := (FloatKind.f64.format.order x.Lo y.Lo == some .eq) && ((FloatKind.f64.format.order x.Hi y.Hi == some .eq) && true)
theorem GIval.eqok28 (d : Nat) (x y : GIval) : EqOk prog (d + 2) 28 (GIval.enc x) (GIval.enc y) (GIval.beq x y) :=
  EqOk.struct tabOk Tryd.underlying28 (by decide +kernel) ⟨by decide, rfl, ⟨te26, rfl, rfl, rfl⟩, _, _, (EqOk.flt ok26 rfl), ⟨by decide, rfl, ⟨te26, rfl, rfl, rfl⟩, _, _, (EqOk.flt ok26 rfl), rfl, rfl⟩, rfl⟩
structure GParts where
  Neg : Bool
  M : Int
  E : Int
abbrev GParts.zero : GParts := ⟨false, (0 : Int), (0 : Int)⟩
abbrev GParts.enc (x : GParts) : DV := .st [1, 1, 1] [.v (.bool x.Neg), .v (.int .u64 x.M), .v (.int .i64 x.E)]
def GParts.beq (x y : GParts) : Bool := (x.Neg == y.Neg) && ((x.M == y.M) && ((x.E == y.E) && true))
structure Gref01Num where
  Neg : Bool
  M : List Int
  E : Int
abbrev Gref01Num.zero : Gref01Num := ⟨false, ([] : List Int), (0 : Int)⟩
abbrev Gref01Num.enc (x : Gref01Num) : DV := .st [1, 1, 1] [.v (.bool x.Neg), .sl 106 1 (List.map (eInt .u32) x.M), .v (.int .i64 x.E)]
structure Gref01Exact where
  A : Gref01Num
  B : Gref01Num
  Root : Bool
abbrev Gref01Exact.zero : Gref01Exact := ⟨Gref01Num.zero, Gref01Num.zero, false⟩
abbrev Gref01Exact.enc (x : Gref01Exact) : DV := .st [3, 3, 1] [Gref01Num.enc x.A, Gref01Num.enc x.B, .v (.bool x.Root)]
structure Gulpvalue where
  neg_ : Bool
  hi_ : Int
  lo_ : Int
  e_ : Int
  more_ : Bool
abbrev Gulpvalue.zero : Gulpvalue := ⟨false, (0 : Int), (0 : Int), (0 : Int), false⟩
abbrev Gulpvalue.enc (x : Gulpvalue) : DV := .st [1, 1, 1, 1, 1] [.v (.bool x.neg_), .v (.int .u64 x.hi_), .v (.int .u64 x.lo_), .v (.int .i64 x.e_), .v (.bool x.more_)]
def Gulpvalue.beq (x y : Gulpvalue) : Bool := (x.neg_ == y.neg_) && ((x.hi_ == y.hi_) && ((x.lo_ == y.lo_) && ((x.e_ == y.e_) && ((x.more_ == y.more_) && true))))
def GRat.ok (x : GRat) : Prop := okInt .i64 x.N ∧ okInt .i64 x.D
def GIval.ok (x : GIval) : Prop := okFlt x.Lo ∧ okFlt x.Hi
def GParts.ok (x : GParts) : Prop := okInt .u64 x.M ∧ okInt .i64 x.E
def Gref01Num.ok (x : Gref01Num) : Prop := (x.M.length ≤ maxLen ∧ ∀ z0 ∈ x.M, okInt .u32 z0) ∧ okInt .i64 x.E
def Gref01Exact.ok (x : Gref01Exact) : Prop := Gref01Num.ok x.A ∧ Gref01Num.ok x.B
def Gulpvalue.ok (x : Gulpvalue) : Prop := okInt .u64 x.hi_ ∧ okInt .u64 x.lo_ ∧ okInt .i64 x.e_
end Go.Sim.YtlglkgineclggaaDoor
