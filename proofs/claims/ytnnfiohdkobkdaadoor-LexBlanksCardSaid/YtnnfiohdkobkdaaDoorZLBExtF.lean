/- What is proved: a float's bits, and the float of bits. -/
import Derived.Test.YtnnfiohdkobkdaaDoorZLBWE
import Derived.ProofKit
namespace Go.Sim.YtnnfiohdkobkdaaDoor
open Go.RowKit Go.Proofs Go.Proofs.Tryd
theorem float64bits_ev (b : Nat) : Ev_math_Float64bits b (b : Int) := by
  refine ⟨.int .u64 b, fun w => ?_, fun w S => by simp [RepV, RepD, Value.oneCell']⟩
  rw [run_callFunc_extern Tryd.func43 (by kernel_rfl) (by kernel_rfl) (by kernel_rfl) (e := Extern.MathFloatBits.float64bits) (by kernel_rfl)]
  rfl
theorem float64frombits_ev (b : Nat) : Ev_math_Float64frombits (b : Int) b := by
  refine ⟨.float .f64 b, fun w => ?_, fun w S => by simp [RepV, RepD, Value.oneCell']⟩
  rw [run_callFunc_extern Tryd.func42 (by kernel_rfl) (by kernel_rfl) (by kernel_rfl) (e := Extern.MathFloatBits.float64frombits) (by kernel_rfl)]
  rfl
end Go.Sim.YtnnfiohdkobkdaaDoor
