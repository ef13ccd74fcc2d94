/- What is proved: what the functions of numbers compute (the program's: right, size, gcd, made, products, quotients), in words of the printed statements. -/
import Derived.Test.YtlglkgineclggaaZGWF3
import Derived.Test.YtlglkgineclggaaZGExtB
import Derived.Test.YtlglkgineclggaaZGDivX
import Derived.Test.YtlglkgineclggaaZGBig
import Derived.Test.YtlglkgineclggaaZGPureK
namespace Go.Sim.Ytlglkgineclggaa
open Go.RowKit Go.Proofs Go.Proofs.Try
def GRat.inI (a : GRat) : Prop := Sim.inI a.N ∧ Sim.inI a.D
def GRat.right (a : GRat) : Bool := rightS a.N a.D
abbrev GRat.p (a : GRat) : Int × Int := (a.N, a.D)
theorem shr32' (a : Nat) : Int.fdiv (a : Int) (2 ^ 32) = ((a / 4294967296 : Nat) : Int) := by rw [shrC]
theorem mul64_ev (a b : Nat) (ha : a < 18446744073709551616) (hb : b < 18446744073709551616) : Ev_math_bits_Mul64 (a : Int) (b : Int) (((a * b / 18446744073709551616 : Nat) : Int), ((a * b % 18446744073709551616 : Nat) : Int)) := by
  obtain ⟨x0, hx0⟩ : ∃ x0, x0 = a % 4294967296 := ⟨_, rfl⟩
  obtain ⟨x1, hx1⟩ : ∃ x1, x1 = a / 4294967296 := ⟨_, rfl⟩
  obtain ⟨y0, hy0⟩ : ∃ y0, y0 = b % 4294967296 := ⟨_, rfl⟩
  obtain ⟨y1, hy1⟩ : ∃ y1, y1 = b / 4294967296 := ⟨_, rfl⟩
  have b00 : x0 * y0 ≤ 4294967295 * 4294967295 := Nat.mul_le_mul (by omega) (by omega)
  have b10 : x1 * y0 ≤ 4294967295 * 4294967295 := Nat.mul_le_mul (by omega) (by omega)
  have b01 : x0 * y1 ≤ 4294967295 * 4294967295 := Nat.mul_le_mul (by omega) (by omega)
  have b11 : x1 * y1 ≤ 4294967295 * 4294967295 := Nat.mul_le_mul (by omega) (by omega)
  obtain ⟨w0, hw0⟩ : ∃ w0, w0 = x0 * y0 := ⟨_, rfl⟩
  obtain ⟨t, ht⟩ : ∃ t, t = x1 * y0 + w0 / 4294967296 := ⟨_, rfl⟩
  obtain ⟨w1, hw1⟩ : ∃ w1, w1 = t % 4294967296 + x0 * y1 := ⟨_, rfl⟩
  have hres := mul64_ok (a := a) (b := b) (x0 := x0) (x1 := x1) (y0 := y0) (y1 := y1) (by omega) (by omega) hw0 ht hw1
  refine walk_math_bits_Mul64 ?_
  unfold W_math_bits_Mul64
  refine Let.as (x0 : Int) (by rw [and32 ha, hx0]) (Let.as (x1 : Int) (by rw [shr32', hx1]) (Let.as (y0 : Int) (by rw [and32 hb, hy0]) (Let.as (y1 : Int) (by rw [shr32', hy1]) ?_)))
  refine Let.as (w0 : Int) (by rw [← Int.natCast_mul, wu (by omega) (by omega), hw0]) (Let.as ((x1 * y0 : Nat) : Int) (by rw [← Int.natCast_mul, wu (by omega) (by omega)]) (Let.as _ (shr32' w0) (Let.as (t : Int) (by rw [wu (by omega) (by omega)]; omega) ?_)))
  refine Let.as ((t % 4294967296 : Nat) : Int) (and32 (by omega)) (Let.as _ (shr32' t) (Let.as ((x0 * y1 : Nat) : Int) (by rw [← Int.natCast_mul, wu (by omega) (by omega)]) (Let.as (w1 : Int) (by rw [wu (by omega) (by omega)]; omega) ?_)))
  refine Let.as ((x1 * y1 : Nat) : Int) (by rw [← Int.natCast_mul, wu (by omega) (by omega)]) (Let.as ((x1 * y1 + t / 4294967296 : Nat) : Int) (by rw [wu (by omega) (by omega)]; omega) (Let.as _ (shr32' w1) (Let.as ((a * b / 18446744073709551616 : Nat) : Int) (by rw [← hres, wu (by omega) (by omega)]; omega) ?_)))
  exact Let.as _ (by rw [← Int.natCast_mul, wuN]) rfl
theorem wuM (n : Int) : IntKind.u64.wrap n = n % 18446744073709551616 := by simp only [IntKind.wrap, IntKind.bits, IntKind.signed, Bool.false_and, Bool.false_eq_true, if_false]; omega
end Go.Sim.Ytlglkgineclggaa
