/- What is proved: the functions of math/bits that the model stands in for yield sums and differences with their carries. -/
import Derived.Test.YtlglkgineclggaaZGWE
import Derived.ProofKit
namespace Go.Sim.Ytlglkgineclggaa
open Go.RowKit Go.Proofs Go.Proofs.Try
def addEntry : Array Value → Sem Value := fun args => do
  let (x, y, c) ← Extern.MathBitsCarry.three "Add64" args
  pure (Extern.MathBitsCarry.pair ((x + y + c) % Extern.MathBitsCarry.m64) ((x + y + c) / Extern.MathBitsCarry.m64))
def subEntry : Array Value → Sem Value := fun args => do
  let (x, y, b) ← Extern.MathBitsCarry.three "Sub64" args
  pure (Extern.MathBitsCarry.pair ((x + Extern.MathBitsCarry.m64 - y - b) % Extern.MathBitsCarry.m64) (if x < y + b then 1 else 0))
theorem rep_two (w : World) (S : Nat → Prop) (a b : Int) : RepV w S (.tup [.v (.int .u64 a), .v (.int .u64 b)]) (.tuple #[.int .u64 a, .int .u64 b]) :=
  ⟨[.int .u64 a, .int .u64 b], rfl, .cons (.inr ⟨rfl, rfl, rfl⟩) (.cons (.inr ⟨rfl, rfl, rfl⟩) .nil)⟩
theorem add64_ev (x y c : Nat) (hc : c ≤ 1) : Ev_math_bits_Add64 (x : Int) (y : Int) (c : Int) ((((x + y + c) % 18446744073709551616 : Nat) : Int), (((x + y + c) / 18446744073709551616 : Nat) : Int)) := by
  refine ⟨.tuple #[.int .u64 (((x + y + c) % 18446744073709551616 : Nat) : Int), .int .u64 (((x + y + c) / 18446744073709551616 : Nat) : Int)], fun w => ?_, fun w S => rep_two w S _ _⟩
  rw [run_callFunc_extern Try.func89 (by kernel_rfl) (by kernel_rfl) (by kernel_rfl) (e := addEntry) (by kernel_rfl)]
  have : c = 0 ∨ c = 1 := by omega
  rcases this with rfl | rfl <;> rfl
theorem sub64_ev (x y c : Nat) (hc : c ≤ 1) : Ev_math_bits_Sub64 (x : Int) (y : Int) (c : Int) ((((x + 18446744073709551616 - y - c) % 18446744073709551616 : Nat) : Int), ((if x < y + c then 1 else 0 : Nat) : Int)) := by
  refine ⟨.tuple #[.int .u64 (((x + 18446744073709551616 - y - c) % 18446744073709551616 : Nat) : Int), .int .u64 ((if x < y + c then 1 else 0 : Nat) : Int)], fun w => ?_, fun w S => rep_two w S _ _⟩
  rw [run_callFunc_extern Try.func90 (by kernel_rfl) (by kernel_rfl) (by kernel_rfl) (e := subEntry) (by kernel_rfl)]
  have : c = 0 ∨ c = 1 := by omega
  rcases this with rfl | rfl <;> rfl
end Go.Sim.Ytlglkgineclggaa
