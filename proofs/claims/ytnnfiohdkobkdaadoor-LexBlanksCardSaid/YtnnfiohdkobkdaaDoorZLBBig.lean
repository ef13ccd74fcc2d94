/- What is proved: numbers as lists of digits of 32 bits, and what wraps to itself. -/
import Derived.Test.YtnnfiohdkobkdaaDoorZLBSimC
namespace Go.Sim
open Go.RowKit
theorem wi {n : Int} (h0 : -9223372036854775808 ≤ n) (h1 : n < 9223372036854775808) : IntKind.i64.wrap n = n := by rw [IntKind.wrap_i64]; omega
theorem wu {n : Int} (h0 : 0 ≤ n) (h1 : n < 18446744073709551616) : IntKind.u64.wrap n = n := by simp only [IntKind.wrap, IntKind.bits, IntKind.signed, Bool.false_and, Bool.false_eq_true, if_false]; omega
theorem wuN (n : Nat) : IntKind.u64.wrap (n : Int) = ((n % 18446744073709551616 : Nat) : Int) := by simp only [IntKind.wrap, IntKind.bits, IntKind.signed, Bool.false_and, Bool.false_eq_true, if_false]; omega
/-- Digits as data. -/
def bl (l : List Nat) : List DV := l.map fun (d : Nat) => .v (.int .u32 d)
end Go.Sim
/- What is proved: the order of digits, and how many bits a number has. -/
namespace Go.Sim
open Go.RowKit
/-- How many bits. -/
def blen (n : Nat) : Nat := if h : n = 0 then 0 else blen (n / 2) + 1
termination_by n
decreasing_by omega
theorem blen_zero : blen 0 = 0 := by rw [blen]; simp
theorem blen_pos {n : Nat} (h : n ≠ 0) : blen n = blen (n / 2) + 1 := by rw [blen]; simp [h]
theorem blen_le (n : Nat) : ∀ k, blen n ≤ k ↔ n < 2 ^ k := by
  induction n using Nat.strongRecOn with
  | _ n ih =>
    intro k
    by_cases h : n = 0
    · subst h; simp [blen_zero, Nat.two_pow_pos]
    · rw [blen_pos h]
      cases k with
      | zero => simp; omega
      | succ k =>
        have := ih (n / 2) (by omega) k
        rw [Nat.pow_succ]
        constructor
        · intro h'; have := this.1 (by omega); omega
        · intro h'; have := this.2 (by omega); omega
/-! ### Division, bit by bit -/
/-! ### Numbers of 64 bits -/
/-- n / d in its form, if it has room. -/
def madeS (neg : Bool) (n d : Nat) : (Int × Int) × Int :=
  if n / Nat.gcd n d < 9223372036854775808 ∧ d / Nat.gcd n d < 9223372036854775808 then (((if neg then -((n / Nat.gcd n d : Nat) : Int) else ((n / Nat.gcd n d : Nat) : Int)), ((d / Nat.gcd n d : Nat) : Int)), 0) else ((0, 0), 3)
def rightS (n d : Int) : Bool := decide (1 ≤ d) && (decide (n ≠ -9223372036854775808) && (Nat.gcd n.natAbs d.natAbs == 1))
end Go.Sim
/- What is proved: plain laws of quotients: what has a common part, products, powers, order. -/
namespace Go.Sim
open Go.RowKit
theorem mul64_ok {a b x0 x1 y0 y1 w0 t w1 : Nat} (ha : a = x1 * 4294967296 + x0) (hb : b = y1 * 4294967296 + y0) (h0 : w0 = x0 * y0) (ht : t = x1 * y0 + w0 / 4294967296) (h1 : w1 = t % 4294967296 + x0 * y1) :
    x1 * y1 + t / 4294967296 + w1 / 4294967296 = a * b / 18446744073709551616 := by
  have e : a * b = x1 * y1 * 18446744073709551616 + (x1 * y0 + x0 * y1) * 4294967296 + x0 * y0 := by
    rw [ha, hb, Nat.add_mul, Nat.mul_add, Nat.mul_add, Nat.add_mul]
    have e1 : x1 * 4294967296 * (y1 * 4294967296) = x1 * y1 * 18446744073709551616 := by rw [Nat.mul_mul_mul_comm]
    have e2 : x1 * 4294967296 * y0 = x1 * y0 * 4294967296 := Nat.mul_right_comm _ _ _
    have e3 : x0 * (y1 * 4294967296) = x0 * y1 * 4294967296 := (Nat.mul_assoc _ _ _).symm
    omega
  generalize x1 * y1 = p11 at *
  generalize x1 * y0 = p10 at *
  generalize x0 * y1 = p01 at *
  generalize x0 * y0 = p00 at *
  generalize a * b = ab at *
  omega
theorem and32 {a : Nat} (h : a < 18446744073709551616) : bits .and .u64 (a : Int) 4294967295 = ((a % 4294967296 : Nat) : Int) := by
  have hk : ∀ n : Int, 0 ≤ n → n < 2 ^ 64 → IntKind.u64.wrap n = n := fun n h0 h1 => wu h0 (by simpa using h1)
  have := bits_mask .u64 64 (by simp [IntKind.bits]) hk 32 (by omega) (a : Int) (by omega) (by simp; omega)
  rw [show ((2 : Int) ^ 32 - 1) = 4294967295 from rfl] at this
  rw [this]
  omega
/-! ### Powers, one factor after the other -/
end Go.Sim
/- What is proved: plain laws of sums of quotients. -/
namespace Go.Sim
open Go.RowKit
end Go.Sim
/- What is proved: plain laws of a sum of two quotients, with what their lower parts have in common taken out ahead. -/
namespace Go.Sim
open Go.RowKit
end Go.Sim
/- What is proved: plain laws of the order of quotients: it is total, goes through, and goes with sums. -/
namespace Go.Sim
open Go.RowKit
end Go.Sim
