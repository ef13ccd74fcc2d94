/- What is proved: plain laws of a sum of two quotients, with what their lower parts have in common taken out ahead. -/
import Derived.Test.YtnhflokfcnfegaaRatN
namespace Go.Sim
open Go.RowKit

theorem cop_lin (a b : Int) (p : Nat) : Nat.gcd (a + b * p).natAbs p = Nat.gcd a.natAbs p := by
  have h := Int.gcd_add_mul_right_right (p : Int) a b
  simp only [Int.gcd, Int.natAbs_natCast] at h
  rw [Nat.gcd_comm, h, Nat.gcd_comm]

/-- What a sum's parts have in common. -/
theorem add_red {n1 n2 : Int} {d1 d2 : Nat} (h1 : Nat.gcd n1.natAbs d1 = 1) (h2 : Nat.gcd n2.natAbs d2 = 1) (z1 : d1 ≠ 0) {g p q : Nat} {S : Int} {k : Nat} (hg : g = Nat.gcd d1 d2) (hp : p = d1 / g) (hq : q = d2 / g)
    (hS : S = n1 * q + n2 * p) (hk : k = Nat.gcd S.natAbs g) :
    0 < g ∧ 0 < k ∧ k ∣ S.natAbs ∧ k ∣ g ∧ d1 = p * g ∧ d2 = q * g ∧ Nat.gcd (S.natAbs / k) (p * (g / k) * q) = 1 ∧ (n1 * d2 + n2 * d1 = S * g) ∧
      ∀ neg, madeS neg (S.natAbs * g) (d1 * d2) = madeS neg (S.natAbs / k) (p * (g / k) * q) := by
  have hg0 : 0 < g := by rw [hg]; exact Nat.gcd_pos_of_pos_left _ (by omega)
  have hk0 : 0 < k := by rw [hk]; exact Nat.gcd_pos_of_pos_right _ hg0
  have kS : k ∣ S.natAbs := by rw [hk]; exact Nat.gcd_dvd_left _ _
  have kg : k ∣ g := by rw [hk]; exact Nat.gcd_dvd_right _ _
  have e1 : d1 = p * g := by rw [hp, hg]; exact (Nat.div_mul_cancel (Nat.gcd_dvd_left _ _)).symm
  have e2 : d2 = q * g := by rw [hq, hg]; exact (Nat.div_mul_cancel (Nat.gcd_dvd_right _ _)).symm
  have cpq : Nat.Coprime p q := by rw [hp, hq, hg]; exact Nat.coprime_div_gcd_div_gcd (by rw [← hg]; exact hg0)
  have c1p : Nat.Coprime n1.natAbs p := Nat.Coprime.coprime_dvd_right ⟨g, e1⟩ h1
  have c2q : Nat.Coprime n2.natAbs q := Nat.Coprime.coprime_dvd_right ⟨g, e2⟩ h2
  have cSp : Nat.Coprime S.natAbs p := by
    show Nat.gcd _ _ = 1
    rw [hS, cop_lin, Int.natAbs_mul, Int.natAbs_natCast]
    exact c1p.mul_left cpq.symm
  have cSq : Nat.Coprime S.natAbs q := by
    show Nat.gcd _ _ = 1
    rw [hS, Int.add_comm, cop_lin, Int.natAbs_mul, Int.natAbs_natCast]
    exact c2q.mul_left cpq
  have dS : S.natAbs / k ∣ S.natAbs := Nat.div_dvd_of_dvd kS
  have cSg : Nat.Coprime (S.natAbs / k) (g / k) := by rw [hk]; exact Nat.coprime_div_gcd_div_gcd (by rw [← hk]; exact hk0)
  refine ⟨hg0, hk0, kS, kg, e1, e2, ((cSp.coprime_dvd_left dS).mul_right cSg).mul_right (cSq.coprime_dvd_left dS), ?_, fun neg => ?_⟩
  · rw [hS, e1, e2, Int.natCast_mul, Int.natCast_mul, Int.add_mul, Int.mul_assoc, Int.mul_assoc]
  · have m1 : d1 * d2 = p * g * q * g := by rw [e1, e2, Nat.mul_assoc (p * g)]
    have m2 : p * g * q = p * (g / k) * q * k := by
      conv => lhs; rw [← Nat.div_mul_cancel kg]
      rw [← Nat.mul_assoc, Nat.mul_right_comm]
    rw [m1, madeS_scale hg0, m2]
    conv => lhs; rw [← Nat.div_mul_cancel kS]
    rw [madeS_scale hk0]

/-- The greatest parts that lie in 63 bits: a sum of two products. -/
theorem bd126 {a b : Nat} (ha : a ≤ 9223372036854775807) (hb : b ≤ 9223372036854775807) : a * b ≤ 85070591730234615847396907784232501249 := by
  have := Nat.mul_le_mul ha hb
  simpa using this

end Go.Sim
