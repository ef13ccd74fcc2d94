/- What is proved: the program's structs as Lean's, how they lie in memory, and their equality. -/
import Derived.Test.YtlglkgineclggaaZGTab
namespace Go.Sim.Ytlglkgineclggaa
open Go.RowKit Go.Proofs Go.Proofs.Try
set_option maxRecDepth 100000
structure GIval where
  Lo : Nat
  Hi : Nat
abbrev GIval.zero : GIval := ⟨(0 : Nat), (0 : Nat)⟩
abbrev GIval.enc (x : GIval) : DV := .st [1, 1] [.v (.float .f64 x.Lo), .v (.float .f64 x.Hi)]
def GIval.beq (x y : GIval) : Bool := (FloatKind.f64.format.order x.Lo y.Lo == some .eq) && ((FloatKind.f64.format.order x.Hi y.Hi == some .eq) && true)
theorem GIval.eqok36 (d : Nat) (x y : GIval) : EqOk prog (d + 2) 36 (GIval.enc x) (GIval.enc y) (GIval.beq x y) :=
  EqOk.struct tabOk Try.underlying36 (by decide +kernel) ⟨by decide, rfl, ⟨te24, rfl, rfl, rfl⟩, _, _, (EqOk.flt ok24 rfl), ⟨by decide, rfl, ⟨te24, rfl, rfl, rfl⟩, _, _, (EqOk.flt ok24 rfl), rfl, rfl⟩, rfl⟩
structure GRat where
  N : Int
  D : Int
abbrev GRat.zero : GRat := ⟨(0 : Int), (0 : Int)⟩
abbrev GRat.enc (x : GRat) : DV := .st [1, 1] [.v (.int .i64 x.N), .v (.int .i64 x.D)]
def GRat.beq (x y : GRat) : Bool := (x.N == y.N) && ((x.D == y.D) && true)
structure GDim where
  E : Vector GRat 7
abbrev GDim.zero : GDim := ⟨(Vector.mk #[GRat.zero, GRat.zero, GRat.zero, GRat.zero, GRat.zero, GRat.zero, GRat.zero] rfl : Vector GRat 7)⟩
abbrev GDim.enc (x : GDim) : DV := .st [14] [.ar 2 (List.map GRat.enc (Vector.toList x.E))]
def GDim.beq (x y : GDim) : Bool := (allEq GRat.beq x.E.toList y.E.toList) && true
structure Gunitform where
  x_ : List GRat
  d_ : GDim
abbrev Gunitform.zero : Gunitform := ⟨([] : List GRat), GDim.zero⟩
abbrev Gunitform.enc (x : Gunitform) : DV := .st [1, 14] [.sl 56 2 (List.map GRat.enc x.x_), GDim.enc x.d_]
structure GKey where
  V : Int
  K : Int
abbrev GKey.zero : GKey := ⟨(0 : Int), (0 : Int)⟩
abbrev GKey.enc (x : GKey) : DV := .st [1, 1] [.v (.int .i64 x.V), .v (.int .i64 x.K)]
def GKey.beq (x y : GKey) : Bool := (x.V == y.V) && ((x.K == y.K) && true)
structure GNode where
  Kind : Int
  A : Int
  B : Int
  N : Int
  Num : GRat
  Key : GKey
  Dim : GDim
abbrev GNode.zero : GNode := ⟨(0 : Int), (0 : Int), (0 : Int), (0 : Int), GRat.zero, GKey.zero, GDim.zero⟩
abbrev GNode.enc (x : GNode) : DV := .st [1, 1, 1, 1, 2, 2, 14] [.v (.int .i64 x.Kind), .v (.int .i64 x.A), .v (.int .i64 x.B), .v (.int .i64 x.N), GRat.enc x.Num, GKey.enc x.Key, GDim.enc x.Dim]
def GNode.beq (x y : GNode) : Bool := (x.Kind == y.Kind) && ((x.A == y.A) && ((x.B == y.B) && ((x.N == y.N) && ((GRat.beq x.Num y.Num) && ((GKey.beq x.Key y.Key) && ((GDim.beq x.Dim y.Dim) && true))))))
structure Gunitfinder where
  nodes_ : List GNode
  vars_ : List GDim
  given_ : List Bool
  second_ : Gunitform
  forms_ : List Gunitform
  rules_ : List Gunitform
  kept_ : List Gunitform
  own_ : List Int
abbrev Gunitfinder.zero : Gunitfinder := ⟨([] : List GNode), ([] : List GDim), ([] : List Bool), Gunitform.zero, ([] : List Gunitform), ([] : List Gunitform), ([] : List Gunitform), ([] : List Int)⟩
abbrev Gunitfinder.enc (x : Gunitfinder) : DV := .st [1, 1, 1, 15, 1, 1, 1, 1] [.sl 105 22 (List.map GNode.enc x.nodes_), .sl 59 14 (List.map GDim.enc x.vars_), .sl 4 1 (List.map eBool x.given_), Gunitform.enc x.second_, .sl 89 15 (List.map Gunitform.enc x.forms_), .sl 89 15 (List.map Gunitform.enc x.rules_), .sl 89 15 (List.map Gunitform.enc x.kept_), .sl 3 1 (List.map (eInt .i64) x.own_)]
structure Gunitover where
  bad_ : Int
abbrev Gunitover.zero : Gunitover := ⟨(0 : Int)⟩
abbrev Gunitover.enc (x : Gunitover) : DV := .st [1] [.v (.int .i64 x.bad_)]
def Gunitover.beq (x y : Gunitover) : Bool := (x.bad_ == y.bad_) && true
structure Gref14Form where
  X : List GRat
  D : GDim
abbrev Gref14Form.zero : Gref14Form := ⟨([] : List GRat), GDim.zero⟩
abbrev Gref14Form.enc (x : Gref14Form) : DV := .st [1, 14] [.sl 56 2 (List.map GRat.enc x.X), GDim.enc x.D]
structure Gref14Finder where
  Nodes : List GNode
  Vars : List GDim
  Given : List Bool
  Second : Gref14Form
  Forms : List Gref14Form
  Rules : List Gref14Form
abbrev Gref14Finder.zero : Gref14Finder := ⟨([] : List GNode), ([] : List GDim), ([] : List Bool), Gref14Form.zero, ([] : List Gref14Form), ([] : List Gref14Form)⟩
abbrev Gref14Finder.enc (x : Gref14Finder) : DV := .st [1, 1, 1, 15, 1, 1] [.sl 105 22 (List.map GNode.enc x.Nodes), .sl 59 14 (List.map GDim.enc x.Vars), .sl 4 1 (List.map eBool x.Given), Gref14Form.enc x.Second, .sl 108 15 (List.map Gref14Form.enc x.Forms), .sl 108 15 (List.map Gref14Form.enc x.Rules)]
structure GParts where
  Neg : Bool
  M : Int
  E : Int
abbrev GParts.zero : GParts := ⟨false, (0 : Int), (0 : Int)⟩
abbrev GParts.enc (x : GParts) : DV := .st [1, 1, 1] [.v (.bool x.Neg), .v (.int .u64 x.M), .v (.int .i64 x.E)]
def GParts.beq (x y : GParts) : Bool := (x.Neg == y.Neg) && ((x.M == y.M) && ((x.E == y.E) && true))
structure Gulpvalue where
  neg_ : Bool
  hi_ : Int
  lo_ : Int
  e_ : Int
  more_ : Bool
abbrev Gulpvalue.zero : Gulpvalue := ⟨false, (0 : Int), (0 : Int), (0 : Int), false⟩
abbrev Gulpvalue.enc (x : Gulpvalue) : DV := .st [1, 1, 1, 1, 1] [.v (.bool x.neg_), .v (.int .u64 x.hi_), .v (.int .u64 x.lo_), .v (.int .i64 x.e_), .v (.bool x.more_)]
def Gulpvalue.beq (x y : Gulpvalue) : Bool := (x.neg_ == y.neg_) && ((x.hi_ == y.hi_) && ((x.lo_ == y.lo_) && ((x.e_ == y.e_) && ((x.more_ == y.more_) && true))))
structure Gref01Num where
  Neg : Bool
  M : List Int
  E : Int
abbrev Gref01Num.zero : Gref01Num := ⟨false, ([] : List Int), (0 : Int)⟩
abbrev Gref01Num.enc (x : Gref01Num) : DV := .st [1, 1, 1] [.v (.bool x.Neg), .sl 175 1 (List.map (eInt .u32) x.M), .v (.int .i64 x.E)]
structure Gref01Exact where
  A : Gref01Num
  B : Gref01Num
  Root : Bool
abbrev Gref01Exact.zero : Gref01Exact := ⟨Gref01Num.zero, Gref01Num.zero, false⟩
abbrev Gref01Exact.enc (x : Gref01Exact) : DV := .st [3, 3, 1] [Gref01Num.enc x.A, Gref01Num.enc x.B, .v (.bool x.Root)]
def GIval.ok (x : GIval) : Prop := okFlt x.Lo ∧ okFlt x.Hi
def GRat.ok (x : GRat) : Prop := okInt .i64 x.N ∧ okInt .i64 x.D
def GDim.ok (x : GDim) : Prop := (∀ z0 ∈ x.E.toList, GRat.ok z0)
def Gunitform.ok (x : Gunitform) : Prop := (x.x_.length ≤ maxLen ∧ ∀ z0 ∈ x.x_, GRat.ok z0) ∧ GDim.ok x.d_
def GKey.ok (x : GKey) : Prop := okInt .i64 x.V ∧ okInt .i64 x.K
def GNode.ok (x : GNode) : Prop := okInt .i64 x.Kind ∧ okInt .i64 x.A ∧ okInt .i64 x.B ∧ okInt .i64 x.N ∧ GRat.ok x.Num ∧ GKey.ok x.Key ∧ GDim.ok x.Dim
def Gunitfinder.ok (x : Gunitfinder) : Prop := (x.nodes_.length ≤ maxLen ∧ ∀ z0 ∈ x.nodes_, GNode.ok z0) ∧ (x.vars_.length ≤ maxLen ∧ ∀ z0 ∈ x.vars_, GDim.ok z0) ∧ (x.given_.length ≤ maxLen) ∧ Gunitform.ok x.second_ ∧ (x.forms_.length ≤ maxLen ∧ ∀ z0 ∈ x.forms_, Gunitform.ok z0) ∧ (x.rules_.length ≤ maxLen ∧ ∀ z0 ∈ x.rules_, Gunitform.ok z0) ∧ (x.kept_.length ≤ maxLen ∧ ∀ z0 ∈ x.kept_, Gunitform.ok z0) ∧ (x.own_.length ≤ maxLen ∧ ∀ z0 ∈ x.own_, okInt .i64 z0)
def Gunitover.ok (x : Gunitover) : Prop := okInt .i64 x.bad_
def Gref14Form.ok (x : Gref14Form) : Prop := (x.X.length ≤ maxLen ∧ ∀ z0 ∈ x.X, GRat.ok z0) ∧ GDim.ok x.D
def Gref14Finder.ok (x : Gref14Finder) : Prop := (x.Nodes.length ≤ maxLen ∧ ∀ z0 ∈ x.Nodes, GNode.ok z0) ∧ (x.Vars.length ≤ maxLen ∧ ∀ z0 ∈ x.Vars, GDim.ok z0) ∧ (x.Given.length ≤ maxLen) ∧ Gref14Form.ok x.Second ∧ (x.Forms.length ≤ maxLen ∧ ∀ z0 ∈ x.Forms, Gref14Form.ok z0) ∧ (x.Rules.length ≤ maxLen ∧ ∀ z0 ∈ x.Rules, Gref14Form.ok z0)
def GParts.ok (x : GParts) : Prop := okInt .u64 x.M ∧ okInt .i64 x.E
def Gulpvalue.ok (x : Gulpvalue) : Prop := okInt .u64 x.hi_ ∧ okInt .u64 x.lo_ ∧ okInt .i64 x.e_
def Gref01Num.ok (x : Gref01Num) : Prop := (x.M.length ≤ maxLen ∧ ∀ z0 ∈ x.M, okInt .u32 z0) ∧ okInt .i64 x.E
def Gref01Exact.ok (x : Gref01Exact) : Prop := Gref01Num.ok x.A ∧ Gref01Num.ok x.B
end Go.Sim.Ytlglkgineclggaa
