/- What is proved: the statement LexBlanks. -/
import Derived.Test.YtnnfiohdkobkdaaDoorZLBLexQ
import Derived.Test.YtnnfiohdkobkdaaDoorZLBStrL
namespace Go.Sim.YtnnfiohdkobkdaaDoor
open Go.RowKit Go.Proofs Go.Proofs.Tryd
theorem lexBlanks_ev (s : ByteArray) (m : List Int) (_h : s.size ≤ maxLen) (_k : m.length ≤ maxLen ∧ ∀ z ∈ m, okInt .i64 z) : Ev_law12_LexBlanks s m true := by
  obtain ⟨L, hL, _⟩ := lex_ok
  exact lexBlanks_of hL s m
end Go.Sim.YtnnfiohdkobkdaaDoor
