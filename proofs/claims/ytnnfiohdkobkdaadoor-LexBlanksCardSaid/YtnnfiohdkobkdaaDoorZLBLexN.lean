/- What is proved: the blank that the law puts in ahead of a token. -/
import Derived.Test.YtnnfiohdkobkdaaDoorZLBLexK
namespace Go.Sim.YtnnfiohdkobkdaaDoor
open Go.RowKit Go.Proofs Go.Proofs.Tryd
/-- What is put in ahead of token i. -/
def bl (m : List Int) (i : Nat) : List UInt8 :=
  match m[i]? with
  | none => []
  | some v => if Int.tmod v 4 = 1 then [32, 9, 13, 10] else if Int.tmod v 4 = 2 then [32, 47, 47, 32, 109, 111, 100, 101, 108, 32, 40, 32, 49, 101, 10] else if Int.tmod v 4 = 3 then [10, 47, 47, 10, 47, 47, 10] else []
theorem bl_blank (m : List Int) (i : Nat) : bl m i = [] ∨ Blank (bl m i) := by
  unfold bl
  split
  · exact .inl rfl
  · split
    · exact .inr blank_a
    · split
      · exact .inr blank_b
      · split
        · exact .inr blank_c
        · exact .inl rfl
theorem bl_le (m : List Int) (i : Nat) : (bl m i).length ≤ 15 := by
  unfold bl
  split
  · exact Nat.zero_le _
  · repeat' split
    all_goals simp
end Go.Sim.YtnnfiohdkobkdaaDoor
