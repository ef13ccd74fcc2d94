/- What is proved: what the intervals of numbers, of their sums and products have to do with one another. -/
import Derived.Test.YtlglkgineclggaaRatH
import Derived.Test.YtlglkgineclggaaRatA
import Derived.Test.YtlglkgineclggaaBigY
namespace Go.Sim.Ytlglkgineclggaa
open Go.RowKit Go.Proofs Go.Proofs.Try
set_option exponentiation.threshold 5000

theorem mul_val {a b : Int × Int} (h : (mulS a b).2 = 0) : rightS a.1 a.2 = true ∧ rightS b.1 b.2 = true ∧ rightS (mulS a b).1.1 (mulS a b).1.2 = true ∧ (mulS a b).1.1 * (a.2 * b.2) = (a.1 * b.1) * (mulS a b).1.2 ∧ inI (mulS a b).1.1 ∧ inI (mulS a b).1.2 := by
  unfold mulS at h ⊢
  split at h
  · rename_i hr
    simp only [Bool.and_eq_true] at hr
    obtain ⟨ra, rb⟩ := hr
    rw [if_pos (by simp [ra, rb])]
    obtain ⟨p1, _⟩ := rightS_spec.1 ra
    obtain ⟨q1, _⟩ := rightS_spec.1 rb
    have := made_val (Nat.mul_ne_zero (by omega) (by omega)) h
    refine ⟨ra, rb, this.1, ?_, this.2.2⟩
    have h2 := this.2.1
    have e1 : ((a.2.natAbs * b.2.natAbs : Nat) : Int) = a.2 * b.2 := by
      rw [Int.natCast_mul, Int.natAbs_of_nonneg (by omega), Int.natAbs_of_nonneg (by omega)]
    have e2 : valS (decide (a.1 < 0) != decide (b.1 < 0)) (a.1.natAbs * b.1.natAbs) = a.1 * b.1 := by
      have k : ((a.1.natAbs * b.1.natAbs : Nat) : Int) = (a.1.natAbs : Int) * (b.1.natAbs : Int) := Int.natCast_mul ..
      unfold valS
      rw [k]
      by_cases ha : a.1 < 0
      · have ea : (a.1.natAbs : Int) = -a.1 := by omega
        by_cases hb : b.1 < 0
        · have eb : (b.1.natAbs : Int) = -b.1 := by omega
          rw [ea, eb]; simp [ha, hb] <;> grind
        · have eb : (b.1.natAbs : Int) = b.1 := by omega
          rw [ea, eb]; simp [ha, hb] <;> grind
      · have ea : (a.1.natAbs : Int) = a.1 := by omega
        by_cases hb : b.1 < 0
        · have eb : (b.1.natAbs : Int) = -b.1 := by omega
          rw [ea, eb]; simp [ha, hb] <;> grind
        · have eb : (b.1.natAbs : Int) = b.1 := by omega
          rw [ea, eb]; simp [ha, hb] <;> grind
    rw [e1, e2] at h2
    exact h2
  · cases h

/-- What is made of an exact quotient is that number. -/
theorem madeS_exact {s : Bool} {n d : Nat} {c1 c2 : Int} (hd : d ≠ 0) (hr : rightS c1 c2 = true) (h1 : inI c1) (h2 : inI c2) (h : valS s n * c2 = c1 * d) : madeS s n d = ((c1, c2), 0) := by
  obtain ⟨p1, p2, p3⟩ := rightS_spec.1 hr
  unfold inI at h1 h2
  have hn : (valS s n).natAbs = n := by unfold valS; split <;> omega
  have ha : n * c2.natAbs = c1.natAbs * d := by
    have := congrArg Int.natAbs h
    rw [Int.natAbs_mul, Int.natAbs_mul, hn, Int.natAbs_natCast] at this
    exact this
  have hdv : c2.natAbs ∣ d := by
    have h3 : c2.natAbs ∣ c1.natAbs * d := ⟨n, by rw [← ha, Nat.mul_comm]⟩
    exact Nat.Coprime.dvd_of_dvd_mul_left (by rw [Nat.coprime_comm]; exact p3) h3
  obtain ⟨t, rfl⟩ := hdv
  have ht : 0 < t := by
    rcases Nat.eq_zero_or_pos t with e | e
    · rw [e, Nat.mul_zero] at hd; exact absurd rfl hd
    · exact e
  have hc : 0 < c2.natAbs := by omega
  have hnt : n = c1.natAbs * t := by
    refine Nat.eq_of_mul_eq_mul_right hc ?_
    rw [ha, Nat.mul_assoc, Nat.mul_comm t]
  have hs : (if s = true then -((c1.natAbs : Nat) : Int) else ((c1.natAbs : Nat) : Int)) = c1 := by
    have hp : (0 : Int) < ((c2.natAbs * t : Nat) : Int) := by have := Nat.mul_pos hc ht; omega
    unfold valS at h
    by_cases hc0 : c1 = 0
    · rw [hc0]; split <;> rfl
    · cases s with
      | true =>
        rw [if_pos rfl] at h ⊢
        by_cases hneg : c1 < 0
        · omega
        · have h5 := Int.mul_pos (show 0 < c1 by omega) hp
          have h6 : -(n : Int) * c2 ≤ 0 := by rw [Int.neg_mul]; have := Int.mul_nonneg (show 0 ≤ (n : Int) by omega) (show 0 ≤ c2 by omega); omega
          omega
      | false =>
        rw [if_neg (by decide)] at h ⊢
        by_cases hneg : c1 < 0
        · have h5 := Int.mul_neg_of_neg_of_pos hneg hp
          have h6 := Int.mul_nonneg (show 0 ≤ (n : Int) by omega) (show 0 ≤ c2 by omega)
          omega
        · omega
  rw [hnt, madeS_scale ht, madeS_cop p3, if_pos (by omega), hs]
  congr 2; omega

/-! ### Ends -/

theorem T74_eq : T74 = 2 ^ 1074 := by unfold T74; rfl

theorem last_big : 85070591730234615865843651857942052864 * T74 ≤ fv 9218868437227405311 := by
  have e : fv 9218868437227405311 = 9007199254740991 * 2 ^ 2045 := by
    rw [show (9218868437227405311 : Nat) = 2045 * 4503599627370496 + 9007199254740991 by decide]
    exact fv_mk (by decide) (.inl (by decide))
  have h2 : 85070591730234615865843651857942052864 * T74 ≤ 2 ^ 2045 := by
    rw [T74_eq, show (85070591730234615865843651857942052864 : Nat) = 2 ^ 126 by decide, ← Nat.pow_add]
    exact Nat.pow_le_pow_right (by decide) (by decide)
  rw [e]
  generalize 2 ^ 2045 = X at *
  omega

/-- The places below P / D, where P is not too great. -/
theorem dp_b {N : Int} {D : Nat} (hN : -9223372036854775808 ≤ N ∧ N ≤ 9223372036854775808) (hD : 0 < D) :
    -9218868437227405311 ≤ dp (N * (T74 : Int)) D ∧ fV (dp (N * (T74 : Int)) D) * D ≤ N * (T74 : Int) ∧ -(9223372036854775808 * (T74 : Int)) ≤ fV (dp (N * (T74 : Int)) D) ∧ fV (dp (N * (T74 : Int)) D) ≤ 9223372036854775808 * (T74 : Int) := by
  have hT := T74_pos
  have hK : fV 4890909195324358656 = 9223372036854775808 * (T74 : Int) := by
    have e : fv 4890909195324358656 = 9223372036854775808 * T74 := by
      rw [T74_eq, show (4890909195324358656 : Nat) = 1085 * 4503599627370496 + 4503599627370496 by decide, fv_mk (by decide) (.inl (by decide)), show (4503599627370496 : Nat) = 2 ^ 52 by decide, show (9223372036854775808 : Nat) = 2 ^ 63 by decide, ← Nat.pow_add]
    have := fV_nat 4890909195324358656
    rw [e] at this
    rw [show ((4890909195324358656 : Nat) : Int) = 4890909195324358656 from rfl] at this
    rw [this, Int.natCast_mul]
    exact congrArg (fun z : Int => z * (T74 : Int)) (show ((9223372036854775808 : Nat) : Int) = 9223372036854775808 from rfl)
  have hr := dp_range (N * (T74 : Int)) D
  have m1 : -(9223372036854775808 * (T74 : Int)) ≤ N * (T74 : Int) := by
    have := Int.mul_le_mul_of_nonneg_right hN.1 (show (0 : Int) ≤ (T74 : Int) by omega); rw [Int.neg_mul] at this; exact this
  have m2 : N * (T74 : Int) ≤ 9223372036854775808 * (T74 : Int) := Int.mul_le_mul_of_nonneg_right hN.2 (by omega)
  generalize hP : N * (T74 : Int) = P at *
  generalize hKK : 9223372036854775808 * (T74 : Int) = K at *
  have hK0 : 0 ≤ K := by omega
  have low : -4890909195324358656 ≤ dp P D := by
    rw [le_dp hD (by omega) (by omega), fV_neg, hK, Int.neg_mul]
    have : K * 1 ≤ K * D := Int.mul_le_mul_of_nonneg_left (by omega) hK0
    omega
  have c := (le_dp (P := P) hD (by omega) hr.2).1 (Int.le_refl _)
  refine ⟨by omega, c, ?_, ?_⟩
  · have := fV_mono low
    rw [fV_neg, hK] at this; exact this
  · by_cases h : fV (dp P D) ≤ K
    · exact h
    · have : fV (dp P D) * 1 ≤ fV (dp P D) * D := Int.mul_le_mul_of_nonneg_left (by omega) (by omega)
      omega

end Go.Sim.Ytlglkgineclggaa
