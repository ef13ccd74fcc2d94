/- What is proved: the three blanks of the law may be put in. -/
import Derived.Test.YtnnfiohdkobkdaaDoorZLBLexI
namespace Go.Sim.YtnnfiohdkobkdaaDoor
open Go.RowKit Go.Proofs Go.Proofs.Tryd
theorem closed_a : Closed [32, 9, 13, 10] := .blank rfl (.blank rfl (.blank rfl (.blank rfl .nil)))
theorem blank_a : Blank [32, 9, 13, 10] := by
  refine ⟨closed_a, ⟨_, _, rfl, .inl rfl⟩, ?_⟩
  have h : span lineB [32, 9, 13, 10] = 3 := by decide
  have := (Closed.blank (b := 10) rfl .nil) []
  rw [List.append_nil, skip_nil] at this
  rw [h]; exact this
theorem closed_b : Closed [32, 47, 47, 32, 109, 111, 100, 101, 108, 32, 40, 32, 49, 101, 10] := by
  refine .blank rfl (.line (c := 13) ⟨by decide, by decide⟩ (by decide) (by decide) (.blank rfl .nil))
theorem blank_b : Blank [32, 47, 47, 32, 109, 111, 100, 101, 108, 32, 40, 32, 49, 101, 10] := by
  refine ⟨closed_b, ⟨_, _, rfl, .inl rfl⟩, ?_⟩
  have h : span lineB [32, 47, 47, 32, 109, 111, 100, 101, 108, 32, 40, 32, 49, 101, 10] = 14 := by decide
  have := (Closed.blank (b := 10) rfl .nil) []
  rw [List.append_nil, skip_nil] at this
  rw [h]; exact this
theorem closed_c : Closed [10, 47, 47, 10, 47, 47, 10] := by
  refine .blank rfl (.line (c := 2) ⟨by decide, by decide⟩ (by decide) (by decide) (.blank rfl (.line (c := 2) ⟨by decide, by decide⟩ (by decide) (by decide) (.blank rfl .nil))))
theorem blank_c : Blank [10, 47, 47, 10, 47, 47, 10] := by
  refine ⟨closed_c, ⟨_, _, rfl, .inr rfl⟩, ?_⟩
  have h : span lineB [10, 47, 47, 10, 47, 47, 10] = 0 := by decide
  have := closed_c []
  rw [List.append_nil, skip_nil] at this
  rw [h]; exact this
end Go.Sim.YtnnfiohdkobkdaaDoor
