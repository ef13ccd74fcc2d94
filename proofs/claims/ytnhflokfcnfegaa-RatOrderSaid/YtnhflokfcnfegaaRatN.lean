/- What is proved: plain laws of sums of quotients. -/
import Derived.Test.YtnhflokfcnfegaaRatM
namespace Go.Sim
open Go.RowKit

def sumS (s : Bool) (m : Nat) (t : Bool) (n : Nat) : Bool × Nat :=
  if m = 0 then (t, n) else if n = 0 then (s, m) else if s = t then (s, m + n) else if m = n then (false, 0) else if n < m then (s, m - n) else (t, n - m)

theorem sum_val {s t : Bool} {m n : Nat} (hs : m = 0 → s = false) (ht : n = 0 → t = false) : (sumS s m t n).1 = decide (valS s m + valS t n < 0) ∧ (sumS s m t n).2 = (valS s m + valS t n).natAbs := by
  unfold sumS
  by_cases h1 : m = 0
  · rw [if_pos h1]
    subst h1
    rw [hs rfl]
    cases t
    · simp [valS]
    · have : n ≠ 0 := fun h => by cases ht h
      simp [valS]; omega
  · rw [if_neg h1]
    by_cases h2 : n = 0
    · rw [if_pos h2]
      subst h2
      rw [ht rfl]
      cases s
      · simp [valS]
      · simp [valS]; omega
    · rw [if_neg h2]
      by_cases h3 : s = t
      · rw [if_pos h3]
        subst h3
        cases s
        · simp [valS]; omega
        · simp [valS]; omega
      · rw [if_neg h3]
        by_cases h4 : m = n
        · rw [if_pos h4]
          subst h4
          cases s <;> cases t <;> simp_all [valS] <;> omega
        · rw [if_neg h4]
          by_cases h5 : n < m
          · rw [if_pos h5]
            cases s <;> cases t <;> simp_all [valS] <;> omega
          · rw [if_neg h5]
            cases s <;> cases t <;> simp_all [valS] <;> omega

def addS (a b : Int × Int) : (Int × Int) × Int :=
  if (rightS a.1 a.2 && rightS b.1 b.2) = true then madeS (decide (a.1 * b.2 + b.1 * a.2 < 0)) (a.1 * b.2 + b.1 * a.2).natAbs (a.2.natAbs * b.2.natAbs) else ((0, 0), 1)

theorem mul_len4 {a b : Nat} (ha : (dig a).length ≤ 2) (hb : (dig b).length ≤ 2) : (dig (a * b)).length ≤ 10000 := by
  refine Nat.le_trans (dig_length (k := 4) ?_) (by omega)
  have h1 : a < 4294967296 ^ 2 := Nat.lt_of_lt_of_le (dig_upper a) (Nat.pow_le_pow_right (by omega) ha)
  have h2 : b < 4294967296 ^ 2 := Nat.lt_of_lt_of_le (dig_upper b) (Nat.pow_le_pow_right (by omega) hb)
  have h3 := Nat.mul_lt_mul'' h1 h2
  rw [← Nat.pow_add] at h3
  exact h3

theorem mul_lt4 {a b : Nat} (ha : (dig a).length ≤ 2) (hb : (dig b).length ≤ 2) : a * b < 4294967296 ^ 4 := by
  have h1 : a < 4294967296 ^ 2 := Nat.lt_of_lt_of_le (dig_upper a) (Nat.pow_le_pow_right (by omega) ha)
  have h2 : b < 4294967296 ^ 2 := Nat.lt_of_lt_of_le (dig_upper b) (Nat.pow_le_pow_right (by omega) hb)
  have h3 := Nat.mul_lt_mul'' h1 h2
  rw [← Nat.pow_add] at h3
  exact h3

theorem add_len {s t : Bool} {m n : Nat} (hm : m < 4294967296 ^ 4) (hn : n < 4294967296 ^ 4) : (dig (valS s m + valS t n).natAbs).length ≤ 10000 := by
  have h : (valS s m + valS t n).natAbs ≤ m + n := by
    unfold valS
    cases s <;> cases t <;> simp <;> omega
  refine Nat.le_trans (dig_length (k := 5) ?_) (by omega)
  have e : (4294967296 : Nat) ^ 5 = 4294967296 ^ 4 * 4294967296 := Nat.pow_succ ..
  rw [e]
  omega

def subS (a b : Int × Int) : (Int × Int) × Int := if rightS b.1 b.2 = true then addS a (-b.1, b.2) else ((0, 0), 1)

end Go.Sim
