/- What is proved: plain laws of the order of quotients: it is total, goes through, and goes with sums. -/
import Derived.Test.YtnhflokfcnfegaaAddM
namespace Go.Sim
open Go.RowKit

theorem sgnS_neg {x y : Int} : sgnS x y < 0 ↔ x < y := by unfold sgnS; split <;> (try split) <;> omega
theorem sgnS_zero {x y : Int} : sgnS x y = 0 ↔ x = y := by unfold sgnS; split <;> (try split) <;> omega
theorem sgnS_pos {x y : Int} : 0 < sgnS x y ↔ y < x := by unfold sgnS; split <;> (try split) <;> omega
theorem sgnS_flip (x y : Int) : sgnS y x = -sgnS x y := by unfold sgnS; split <;> (try split) <;> (try split) <;> omega
theorem sgnS_bd (x y : Int) : -1 ≤ sgnS x y ∧ sgnS x y ≤ 1 := by unfold sgnS; split <;> (try split) <;> omega
/-- The sign by the difference, up to what is greater than 0. -/
theorem sgnS_of {x y u v k l : Int} (hk : 0 < k) (hl : 0 < l) (h : l * (x - y) = k * (u - v)) : sgnS x y = sgnS u v := by
  rw [Int.mul_sub, Int.mul_sub] at h
  have h1 : x < y ↔ u < v := by
    rw [← Int.mul_lt_mul_left hl, ← @Int.mul_lt_mul_left k u v hk]; omega
  have h2 : y < x ↔ v < u := by
    rw [← Int.mul_lt_mul_left hl, ← @Int.mul_lt_mul_left k v u hk]; omega
  unfold sgnS
  simp only [h1, h2]

theorem cop_eqI {a1 a2 b1 b2 : Int} (ha : rightS a1 a2 = true) (hb : rightS b1 b2 = true) (h : a1 * b2 = b1 * a2) : a1 = b1 ∧ a2 = b2 := by
  obtain ⟨p1, p2, p3⟩ := rightS_spec.1 ha
  obtain ⟨q1, q2, q3⟩ := rightS_spec.1 hb
  have hn := congrArg Int.natAbs h
  rw [Int.natAbs_mul, Int.natAbs_mul] at hn
  obtain ⟨h1, h2⟩ := cop_eq p3 q3 hn
  have e2 : a2 = b2 := by omega
  subst e2
  exact ⟨Int.eq_of_mul_eq_mul_right (by omega) h, rfl⟩

theorem ord_trans {a1 a2 b1 b2 c1 c2 : Int} (ha : 1 ≤ a2) (hb : 1 ≤ b2) (hc : 1 ≤ c2) (h1 : a1 * b2 ≤ b1 * a2) (h2 : b1 * c2 ≤ c1 * b2) : a1 * c2 ≤ c1 * a2 := by
  have e1 := Int.mul_le_mul_of_nonneg_right h1 (show 0 ≤ c2 by omega)
  have e2 := Int.mul_le_mul_of_nonneg_right h2 (show 0 ≤ a2 by omega)
  refine Int.le_of_mul_le_mul_left (a := b2) ?_ (by omega)
  grind

theorem ord_transl {a1 a2 b1 b2 c1 c2 : Int} (ha : 1 ≤ a2) (hb : 1 ≤ b2) (hc : 1 ≤ c2) (h1 : a1 * b2 < b1 * a2) (h2 : b1 * c2 ≤ c1 * b2) : a1 * c2 < c1 * a2 := by
  have e1 := Int.mul_lt_mul_of_pos_right h1 (show 0 < c2 by omega)
  have e2 := Int.mul_le_mul_of_nonneg_right h2 (show 0 ≤ a2 by omega)
  refine Int.lt_of_mul_lt_mul_left (a := b2) ?_ (by omega)
  grind

/-- What is made is a quotient of its form, with the same value. -/
theorem made_val {s : Bool} {n d : Nat} (hd : d ≠ 0) (h : (madeS s n d).2 = 0) : rightS (madeS s n d).1.1 (madeS s n d).1.2 = true ∧ (madeS s n d).1.1 * d = valS s n * (madeS s n d).1.2 ∧ inI (madeS s n d).1.1 ∧ inI (madeS s n d).1.2 := by
  have hg : 0 < Nat.gcd n d := Nat.gcd_pos_of_pos_right _ (by omega)
  by_cases hb : n / Nat.gcd n d < 9223372036854775808 ∧ d / Nat.gcd n d < 9223372036854775808
  · have hc : Nat.gcd (n / Nat.gcd n d) (d / Nat.gcd n d) = 1 := Nat.coprime_div_gcd_div_gcd hg
    have hd1 : 0 < d / Nat.gcd n d := Nat.div_pos (Nat.gcd_le_right _ (by omega)) hg
    have e1 : n / Nat.gcd n d * Nat.gcd n d = n := Nat.div_mul_cancel (Nat.gcd_dvd_left n d)
    have e2 : d / Nat.gcd n d * Nat.gcd n d = d := Nat.div_mul_cancel (Nat.gcd_dvd_right n d)
    rw [madeS, if_pos hb]
    simp only []
    obtain ⟨g, hgg⟩ : ∃ g, g = Nat.gcd n d := ⟨_, rfl⟩
    rw [← hgg] at hg hb hc hd1 e1 e2 ⊢
    obtain ⟨u, hu⟩ : ∃ u, u = n / g := ⟨_, rfl⟩
    obtain ⟨v, hv⟩ : ∃ v, v = d / g := ⟨_, rfl⟩
    rw [← hu] at hb hc e1 ⊢
    rw [← hv] at hb hc hd1 e2 ⊢
    clear h hgg hu hv
    refine ⟨rightS_spec.2 ⟨by omega, ?_, ?_⟩, ?_, ?_, ?_⟩
    · split <;> omega
    · split
      · rw [Int.natAbs_neg]; simpa using hc
      · simpa using hc
    · have key : (u : Int) * (d : Int) = (n : Int) * (v : Int) := by
        conv => lhs; rw [← e2]
        conv => rhs; rw [← e1]
        simp only [Int.natCast_mul]
        grind
      unfold valS
      split
      · rw [Int.neg_mul, Int.neg_mul, key]
      · exact key
    · unfold inI; split <;> omega
    · unfold inI; omega
  · rw [madeS, if_neg hb] at h
    cases h

theorem add_val {a b : Int × Int} (h : (addS a b).2 = 0) : rightS a.1 a.2 = true ∧ rightS b.1 b.2 = true ∧ rightS (addS a b).1.1 (addS a b).1.2 = true ∧ (addS a b).1.1 * (a.2 * b.2) = (a.1 * b.2 + b.1 * a.2) * (addS a b).1.2 ∧ inI (addS a b).1.1 ∧ inI (addS a b).1.2 := by
  unfold addS at h ⊢
  split at h
  · rename_i hr
    simp only [Bool.and_eq_true] at hr
    obtain ⟨ra, rb⟩ := hr
    rw [if_pos (by simp [ra, rb])]
    obtain ⟨p1, _⟩ := rightS_spec.1 ra
    obtain ⟨q1, _⟩ := rightS_spec.1 rb
    have := made_val (Nat.mul_ne_zero (by omega) (by omega)) h
    refine ⟨ra, rb, this.1, ?_, this.2.2⟩
    have h2 := this.2.1
    have e1 : ((a.2.natAbs * b.2.natAbs : Nat) : Int) = a.2 * b.2 := by
      rw [Int.natCast_mul, Int.natAbs_of_nonneg (by omega), Int.natAbs_of_nonneg (by omega)]
    have e2 : valS (decide (a.1 * b.2 + b.1 * a.2 < 0)) (a.1 * b.2 + b.1 * a.2).natAbs = a.1 * b.2 + b.1 * a.2 := by
      unfold valS; split
      · rename_i h; simp only [decide_eq_true_eq] at h; omega
      · rename_i h; simp only [decide_eq_true_eq] at h; omega
    rw [e1, e2] at h2
    exact h2
  · cases h

/-- What is less stays less, if the same is added. -/
theorem add_ord {a b c : Int × Int} (h1 : (addS a c).2 = 0) (h2 : (addS b c).2 = 0) : ratCmpS (addS a c).1 (addS b c).1 = ratCmpS a b := by
  obtain ⟨ra, rc, rs, es, _⟩ := add_val h1
  obtain ⟨rb, _, rt, et, _⟩ := add_val h2
  obtain ⟨a1, a2⟩ := a
  obtain ⟨b1, b2⟩ := b
  obtain ⟨c1, c2⟩ := c
  generalize addS (a1, a2) (c1, c2) = A at *
  generalize addS (b1, b2) (c1, c2) = B at *
  obtain ⟨⟨s1, s2⟩, _⟩ := A
  obtain ⟨⟨t1, t2⟩, _⟩ := B
  simp only [] at *
  unfold ratCmpS
  rw [if_pos (by simp [rs, rt]), if_pos (by simp [ra, rb])]
  obtain ⟨pa, _⟩ := rightS_spec.1 ra
  obtain ⟨pb, _⟩ := rightS_spec.1 rb
  obtain ⟨pc, _⟩ := rightS_spec.1 rc
  obtain ⟨ps, _⟩ := rightS_spec.1 rs
  obtain ⟨pt, _⟩ := rightS_spec.1 rt
  refine sgnS_of (k := s2 * t2 * (c2 * c2)) (l := (a2 * c2) * (b2 * c2)) ?_ ?_ ?_
  · exact Int.mul_pos (Int.mul_pos (by omega) (by omega)) (Int.mul_pos (by omega) (by omega))
  · exact Int.mul_pos (Int.mul_pos (by omega) (by omega)) (Int.mul_pos (by omega) (by omega))
  · grind

end Go.Sim
