/- What is proved: what the intervals of numbers, of their sums and products have to do with one another. -/
import Derived.Test.YtlglkgineclggaaDoorZRTRatH
import Derived.Test.YtlglkgineclggaaDoorZRTRatA
import Derived.Test.YtlglkgineclggaaDoorZRTBigY
namespace Go.Sim.YtlglkgineclggaaDoor
open Go.RowKit Go.Proofs Go.Proofs.Tryd
set_option exponentiation.threshold 5000
/-! ### Ends -/
theorem T74_eq : T74 = 2 ^ 1074 := by unfold T74; rfl
/-- The places below P / D, where P is not too great. -/
theorem dp_b {N : Int} {D : Nat} (hN : -9223372036854775808 ≤ N ∧ N ≤ 9223372036854775808) (hD : 0 < D) :
    -9218868437227405311 ≤ dp (N * (T74 : Int)) D ∧ fV (dp (N * (T74 : Int)) D) * D ≤ N * (T74 : Int) ∧ -(9223372036854775808 * (T74 : Int)) ≤ fV (dp (N * (T74 : Int)) D) ∧ fV (dp (N * (T74 : Int)) D) ≤ 9223372036854775808 * (T74 : Int) := by
  have hT := T74_pos
  have hK : fV 4890909195324358656 = 9223372036854775808 * (T74 : Int) := by
    have e : fv 4890909195324358656 = 9223372036854775808 * T74 := by
      rw [T74_eq, show (4890909195324358656 : Nat) = 1085 * 4503599627370496 + 4503599627370496 by decide, fv_mk (by decide) (.inl (by decide)), show (4503599627370496 : Nat) = 2 ^ 52 by decide, show (9223372036854775808 : Nat) = 2 ^ 63 by decide, ← Nat.pow_add]
    have := fV_nat 4890909195324358656
    rw [e] at this
    rw [show ((4890909195324358656 : Nat) : Int) = 4890909195324358656 from rfl] at this
    rw [this, Int.natCast_mul]
    exact congrArg (fun z : Int => z * (T74 : Int)) (show ((9223372036854775808 : Nat) : Int) = 9223372036854775808 from rfl)
  have hr := dp_range (N * (T74 : Int)) D
  have m1 : -(9223372036854775808 * (T74 : Int)) ≤ N * (T74 : Int) := by
    have := Int.mul_le_mul_of_nonneg_right hN.1 (show (0 : Int) ≤ (T74 : Int) by omega); rw [Int.neg_mul] at this; exact this
  have m2 : N * (T74 : Int) ≤ 9223372036854775808 * (T74 : Int) := Int.mul_le_mul_of_nonneg_right hN.2 (by omega)
  generalize hP : N * (T74 : Int) = P at *
  generalize hKK : 9223372036854775808 * (T74 : Int) = K at *
  have hK0 : 0 ≤ K := by omega
  have low : -4890909195324358656 ≤ dp P D := by
    rw [le_dp hD (by omega) (by omega), fV_neg, hK, Int.neg_mul]
    have : K * 1 ≤ K * D := Int.mul_le_mul_of_nonneg_left (by omega) hK0
    omega
  have c := (le_dp (P := P) hD (by omega) hr.2).1 (Int.le_refl _)
  refine ⟨by omega, c, ?_, ?_⟩
  · have := fV_mono low
    rw [fV_neg, hK] at this; exact this
  · by_cases h : fV (dp P D) ≤ K
    · exact h
    · have : fV (dp P D) * 1 ≤ fV (dp P D) * D := Int.mul_le_mul_of_nonneg_left (by omega) (by omega)
      omega
end Go.Sim.YtlglkgineclggaaDoor
