/- What is proved: rounding down is monotone, and which places lie below an exact number. -/
import Derived.Test.YtlglkgineclggaaDoorZRTFltR
namespace Go.Sim
open Go.RowKit
/-- The least rung whose amount is not below P / Q. -/
def ur (P Q : Nat) : Nat := if fv (fr (P / Q)) * Q = P then fr (P / Q) else fr (P / Q) + 1
theorem ur_le {P Q r : Nat} (hQ : 0 < Q) : ur P Q ≤ r ↔ P ≤ fv r * Q := by
  obtain ⟨s1, s2⟩ := fr_quot_spec (A := P) hQ
  unfold ur
  generalize fr (P / Q) = k at *
  have mono : ∀ {a b : Nat}, a ≤ b → fv a * Q ≤ fv b * Q := fun h => Nat.mul_le_mul_right _ (fv_le.2 h)
  split
  · rename_i e
    constructor
    · intro h; rw [← e]; exact mono h
    · intro h
      by_cases hc : k ≤ r
      · exact hc
      · have := Nat.mul_lt_mul_of_pos_right (fv_lt (show r < k by omega)) hQ; omega
  · rename_i e
    constructor
    · intro h; have := mono h; omega
    · intro h
      by_cases hc : k + 1 ≤ r
      · exact hc
      · have := mono (show r ≤ k by omega); omega
theorem le_fr {P Q r : Nat} (hQ : 0 < Q) : r ≤ fr (P / Q) ↔ fv r * Q ≤ P := by
  obtain ⟨s1, s2⟩ := fr_quot_spec (A := P) hQ
  constructor
  · intro h; exact Nat.le_trans (Nat.mul_le_mul_right _ (fv_le.2 h)) s1
  · intro h
    by_cases hc : r ≤ fr (P / Q)
    · exact hc
    · have := Nat.mul_le_mul_right Q (fv_le.2 (show fr (P / Q) + 1 ≤ r by omega)); omega
/-- The place of P / Q, rounded down. -/
def dp (P : Int) (Q : Nat) : Int := if 0 ≤ P then ((min (fr (P.toNat / Q)) 9218868437227405311 : Nat) : Int) else -((min (ur P.natAbs Q) 9218868437227405312 : Nat) : Int)
theorem dp_range (P : Int) (Q : Nat) : -9218868437227405312 ≤ dp P Q ∧ dp P Q ≤ 9218868437227405311 := by
  unfold dp; split <;> omega
theorem le_dp {P : Int} {Q : Nat} {i : Int} (hQ : 0 < Q) (h1 : -9218868437227405311 ≤ i) (h2 : i ≤ 9218868437227405311) : i ≤ dp P Q ↔ fV i * Q ≤ P := by
  unfold dp
  by_cases hP : 0 ≤ P
  · rw [if_pos hP]
    by_cases hi : 0 ≤ i
    · have e := le_fr (P := P.toNat) (Q := Q) (r := i.toNat) hQ
      have ev : fV i * Q = ((fv i.toNat * Q : Nat) : Int) := by unfold fV; rw [if_pos hi, Int.natCast_mul]
      rw [ev]
      generalize fv i.toNat * Q = X at *
      omega
    · have ev : fV i * Q = -((fv i.natAbs * Q : Nat) : Int) := by unfold fV; rw [if_neg hi, Int.natCast_mul, Int.neg_mul]
      rw [ev]
      generalize fv i.natAbs * Q = X
      omega
  · rw [if_neg hP]
    by_cases hi : 0 < i
    · have ev : fV i * Q = ((fv i.toNat * Q : Nat) : Int) := by unfold fV; rw [if_pos (by omega), Int.natCast_mul]
      rw [ev]
      generalize fv i.toNat * Q = X
      have : 1 ≤ ur P.natAbs Q := by
        have := (ur_le (P := P.natAbs) (Q := Q) (r := 0) hQ)
        rw [fv_zero, Nat.zero_mul] at this
        omega
      omega
    · have ev : fV i * Q = -((fv i.natAbs * Q : Nat) : Int) := by
        unfold fV
        by_cases h0 : i = 0
        · subst h0; simp [fv_zero]
        · rw [if_neg (by omega), Int.natCast_mul, Int.neg_mul]
      rw [ev]
      have e := ur_le (P := P.natAbs) (Q := Q) (r := i.natAbs) hQ
      generalize fv i.natAbs * Q = X at *
      omega
theorem dp_zero {Q : Nat} (hQ : 0 < Q) : dp 0 Q = 0 := by
  have h : fr (0 / Q) = 0 := by rw [Nat.zero_div]; exact fr_uniq (by simp [fv_zero]) (by decide)
  unfold dp
  rw [if_pos (by omega), Int.toNat_zero, h]; rfl
/-! ### The words of rounded numbers -/
theorem fI_capF (k : Nat) (d : Int) : fI (capR false k d) = if 9218868437227405312 ≤ k then (if 0 ≤ d then 9218868437227405312 else 9218868437227405311) else (k : Int) := by
  by_cases h : 9218868437227405312 ≤ k
  · rw [capF_hi h, if_pos h]; split <;> rfl
  · rw [capF_lo (by omega), if_neg h]; unfold fI; rw [if_pos (by omega)]
theorem fI_capT (k : Nat) (d : Int) : fI (capR true k d) = -(if 9218868437227405312 ≤ k then (if 0 ≤ d then 9218868437227405312 else 9218868437227405311) else (k : Int)) := by
  by_cases h : 9218868437227405312 ≤ k
  · rw [capT_hi h, if_pos h]; split <;> rfl
  · rw [capT_lo (by omega), if_neg h]
    by_cases h0 : k = 0
    · rw [if_pos h0, h0]; rfl
    · rw [if_neg h0]; unfold fI; rw [if_neg (by omega)]; omega
theorem capR_ok (s : Bool) (k : Nat) (d : Int) : capR s k d < 18446744073709551616 ∧ capR s k d ≠ 9223372036854775808 ∧ rungB (capR s k d) ≤ 9218868437227405312 := by
  cases s
  · by_cases h : 9218868437227405312 ≤ k
    · rw [capF_hi h]; unfold rungB; split <;> (refine ⟨by omega, by omega, ?_⟩; split <;> omega)
    · rw [capF_lo (by omega)]; unfold rungB; refine ⟨by omega, by omega, ?_⟩; split <;> omega
  · by_cases h : 9218868437227405312 ≤ k
    · rw [capT_hi h]; unfold rungB; split <;> (refine ⟨by omega, by omega, ?_⟩; split <;> omega)
    · rw [capT_lo (by omega)]; unfold rungB; split <;> (refine ⟨by omega, by omega, ?_⟩; split <;> omega)
/-- P / Q, rounded. -/
def rd (P : Int) (Q : Nat) (dir : Int) : Nat := rnd (decide (P < 0)) P.natAbs Q dir
theorem rd_ok (P : Int) (Q : Nat) (dir : Int) : rd P Q dir < 18446744073709551616 ∧ rd P Q dir ≠ 9223372036854775808 ∧ isN (rd P Q dir) := by
  have h := capR_ok (decide (P < 0)) (rndR P.natAbs Q (if decide (P < 0) = true then -dir else dir)) (if decide (P < 0) = true then -dir else dir)
  refine ⟨h.1, h.2.1, ?_⟩
  have h3 := h.2.2
  have e : rd P Q dir = capR (decide (P < 0)) (rndR P.natAbs Q (if decide (P < 0) = true then -dir else dir)) (if decide (P < 0) = true then -dir else dir) := rfl
  rw [← e] at h3
  have := rung_abs (rd P Q dir)
  unfold isN; omega
theorem rndR_dn {A B : Nat} : rndR A B (-1) = fr (A / B) := by
  unfold rndR
  rw [if_neg]; unfold upR; omega
theorem rndR_up {A B : Nat} : rndR A B 1 = ur A B := by
  unfold rndR ur
  by_cases h : fv (fr (A / B)) * B = A
  · rw [if_pos h, if_neg]; unfold upR; omega
  · rw [if_neg h, if_pos]; unfold upR; omega
theorem fI_rd_dn {P : Int} {Q : Nat} : fI (rd P Q (-1)) = dp P Q := by
  unfold rd dp
  by_cases hP : 0 ≤ P
  · rw [if_pos hP, decide_eq_false (by omega)]
    show fI (capR false (rndR P.natAbs Q (-1)) (-1)) = _
    rw [rndR_dn, fI_capF, show P.natAbs = P.toNat by omega, if_neg (show ¬ (0 : Int) ≤ -1 by decide)]
    split <;> omega
  · rw [if_neg hP, decide_eq_true (by omega)]
    show fI (capR true (rndR P.natAbs Q (- -1)) (- -1)) = _
    rw [show (- -1 : Int) = 1 by decide, rndR_up, fI_capT, if_pos (show (0 : Int) ≤ 1 by decide)]
    split <;> omega
theorem fI_rd_up {P : Int} {Q : Nat} (hQ : 0 < Q) : fI (rd P Q 1) = -dp (-P) Q := by
  by_cases h0 : P = 0
  · subst h0
    rw [Int.neg_zero, dp_zero hQ]
    unfold rd
    show fI (capR false (rndR 0 Q 1) 1) = _
    have : ur 0 Q = 0 := by have := (ur_le (P := 0) (Q := Q) (r := 0) hQ).2 (by omega); omega
    rw [rndR_up, this]; rfl
  · unfold rd dp
    by_cases hP : 0 ≤ P
    · rw [if_neg (by omega), decide_eq_false (by omega)]
      show fI (capR false (rndR P.natAbs Q 1) 1) = _
      rw [rndR_up, fI_capF, Int.natAbs_neg, if_pos (show (0 : Int) ≤ 1 by decide)]
      split <;> omega
    · rw [if_pos (by omega), decide_eq_true (by omega)]
      show fI (capR true (rndR P.natAbs Q (-1)) (-1)) = _
      rw [rndR_dn, fI_capT, show P.natAbs = (-P).toNat by omega, if_neg (show ¬ (0 : Int) ≤ -1 by decide)]
      split <;> omega
/-- A word is told by its place, but for -0. -/
theorem fI_inj {a b : Nat} (ha : a ≠ 9223372036854775808) (hb : b ≠ 9223372036854775808) (h : fI a = fI b) : a = b := by
  unfold fI at h
  split at h <;> split at h <;> omega
end Go.Sim
