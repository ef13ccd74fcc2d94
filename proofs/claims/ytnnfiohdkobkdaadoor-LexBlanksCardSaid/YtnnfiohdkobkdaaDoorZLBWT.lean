/- What is proved: the program's structs as Lean's, how they lie in memory, and their equality. -/
import Derived.Test.YtnnfiohdkobkdaaDoorZLBTab
namespace Go.Sim.YtnnfiohdkobkdaaDoor
open Go.RowKit Go.Proofs Go.Proofs.Tryd
set_option maxRecDepth 100000
structure GRat where
  N : Int
  D : Int
abbrev GRat.zero : GRat := ⟨(0 : Int), (0 : Int)⟩
abbrev GRat.enc (x : GRat) : DV := .st [1, 1] [.v (.int .i64 x.N), .v (.int .i64 x.D)]
def GRat.beq (x y : GRat) : Bool := (x.N == y.N) && ((x.D == y.D) && true)
theorem GRat.eqok27 (d : Nat) (x y : GRat) : EqOk prog (d + 2) 27 (GRat.enc x) (GRat.enc y) (GRat.beq x y) :=
  EqOk.struct tabOk Tryd.underlying27 (by decide +kernel) ⟨by decide, rfl, ⟨te2, rfl, rfl, rfl⟩, _, _, (EqOk.int ok2 rfl), ⟨by decide, rfl, ⟨te2, rfl, rfl, rfl⟩, _, _, (EqOk.int ok2 rfl), rfl, rfl⟩, rfl⟩
theorem GRat.beq_iff (x y : GRat) : GRat.beq x y = true ↔ x = y := by
  cases x; cases y; simp [GRat.beq]
structure GToken where
  Kind : Int
  S : ByteArray
  Num : GRat
  At : Int
abbrev GToken.zero : GToken := ⟨(0 : Int), (ByteArray.mk #[]), GRat.zero, (0 : Int)⟩
abbrev GToken.enc (x : GToken) : DV := .st [1, 1, 2, 1] [.v (.int .i64 x.Kind), .v (.string x.S), GRat.enc x.Num, .v (.int .i64 x.At)]
def GToken.beq (x y : GToken) : Bool := (x.Kind == y.Kind) && ((x.S.toList == y.S.toList) && ((GRat.beq x.Num y.Num) && ((x.At == y.At) && true)))
theorem GToken.beq_iff (x y : GToken) : GToken.beq x y = true ↔ x = y := by
  cases x; cases y; simp [GToken.beq, GRat.beq_iff, bytes_inj]
structure Glexlexer where
  s_ : ByteArray
  at_ : Int
  words_ : List (ByteArray × Unit)
abbrev Glexlexer.zero : Glexlexer := ⟨(ByteArray.mk #[]), (0 : Int), ([] : List (ByteArray × Unit))⟩
abbrev Glexlexer.enc (x : Glexlexer) : DV := .st [1, 1, 1] [.v (.string x.s_), .v (.int .i64 x.at_), .mp (List.map (fun e => (fun s : ByteArray => Value.string s) e.1) x.words_) (List.map (fun e => (fun _ : Unit => DV.st [] []) e.2) x.words_)]
-- lex.lexer: ok of map[string]struct {}
def GRat.ok (x : GRat) : Prop := okInt .i64 x.N ∧ okInt .i64 x.D
def GToken.ok (x : GToken) : Prop := okInt .i64 x.Kind ∧ x.S.size ≤ maxLen ∧ GRat.ok x.Num ∧ okInt .i64 x.At
end Go.Sim.YtnnfiohdkobkdaaDoor
