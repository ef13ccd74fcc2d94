/- What is proved: the reference's rounding, by places, is the rounding of an amount and its sign; sums with 0, products by powers of two. -/
import Derived.Test.YtlkpbnhinnhlfaaGreatZLFFltM

namespace Go.Sim
open Go.RowKit
/-- The word of a place. -/
def atI (i : Int) : Nat := if i < 0 then i.natAbs + 9223372036854775808 else i.toNat
/-- The greatest place of a finite float, or -Inf's, that is not above P / Q. -/
structure IsDn (P : Int) (Q : Nat) (d : Int) : Prop where
  lo : -9218868437227405312 ≤ d
  hi : d ≤ 9218868437227405311
  le : d = -9218868437227405312 ∨ fV d * Q ≤ P
  gt : d = 9218868437227405311 ∨ P < fV (d + 1) * Q
def refR (P : Int) (Q : Nat) (d dir : Int) : Nat :=
  if (-9218868437227405311 ≤ d ∧ fV d * Q = P) ∨ dir < 0 then atI d
  else if 0 < dir then atI (d + 1)
  else if (fV d + fV (d + 1)) * Q = 2 * P then (if d % 2 = 0 then atI d else atI (d + 1))
  else if (fV d + fV (d + 1)) * Q ≤ 2 * P then atI (d + 1) else atI d
theorem fV_nat (k : Nat) : fV (k : Int) = fv k := by unfold fV; rw [if_pos (by omega), Int.toNat_natCast]
theorem fV_neg (i : Int) : fV (-i) = -fV i := by
  unfold fV
  by_cases h : i = 0
  · subst h; simp [fv_zero]
  · by_cases h1 : 0 ≤ i
    · rw [if_neg (by omega), if_pos h1, Int.natAbs_neg, show i.natAbs = i.toNat by omega]
    · rw [if_pos (by omega), if_neg h1, Int.neg_neg, show (-i).toNat = i.natAbs by omega]
theorem fV_mono {i j : Int} (h : i ≤ j) : fV i ≤ fV j := fV_le_iff.2 h
theorem capF_lo {k : Nat} {dir : Int} (h : k ≤ 9218868437227405311) : capR false k dir = k := by
  unfold capR
  by_cases h0 : k = 0
  · rw [if_pos h0, h0]
  · rw [if_neg h0, if_neg (by decide), if_neg (by omega), Nat.zero_add]
theorem capF_hi {k : Nat} {dir : Int} (h : 9218868437227405312 ≤ k) : capR false k dir = if 0 ≤ dir then 9218868437227405312 else 9218868437227405311 := by
  unfold capR
  rw [if_neg (by omega), if_neg (by decide), if_pos h, Nat.zero_add]
theorem capT_lo {k : Nat} {dir : Int} (h : k ≤ 9218868437227405311) : capR true k dir = if k = 0 then 0 else k + 9223372036854775808 := by
  unfold capR
  by_cases h0 : k = 0
  · rw [if_pos h0, if_pos h0]
  · rw [if_neg h0, if_neg h0, if_pos rfl, if_neg (by omega), Nat.add_comm]
theorem capT_hi {k : Nat} {dir : Int} (h : 9218868437227405312 ≤ k) : capR true k dir = (if 0 ≤ dir then 9218868437227405312 else 9218868437227405311) + 9223372036854775808 := by
  unfold capR
  rw [if_neg (by omega), if_pos rfl, if_pos h, Nat.add_comm]
/-- One rung up, of a finite one. -/
theorem capF_up {k : Nat} {dir : Int} (h : k ≤ 9218868437227405311) (hd : 0 ≤ dir) : capR false (k + 1) dir = k + 1 := by
  by_cases h1 : k + 1 ≤ 9218868437227405311
  · exact capF_lo h1
  · rw [capF_hi (by omega), if_pos hd]; omega
theorem capT_up {k : Nat} {dir : Int} (h : k ≤ 9218868437227405311) (hd : 0 ≤ dir) : capR true (k + 1) dir = k + 1 + 9223372036854775808 := by
  by_cases h1 : k + 1 ≤ 9218868437227405311
  · rw [capT_lo h1, if_neg (by omega)]
  · rw [capT_hi (by omega), if_pos hd]; omega
theorem mulQ_lt {a b : Int} {Q : Nat} (hQ : 0 < Q) : a * Q < b * Q ↔ a < b := Int.mul_lt_mul_right (by omega)
/-- Of an amount that is not below 0. -/
theorem ref_pos {P Q : Nat} {d dir : Int} (hQ : 0 < Q) (h : IsDn P Q d) : refR P Q d dir = rnd false P Q dir := by
  obtain ⟨s1, s2⟩ := fr_quot_spec (A := P) hQ
  show _ = capR false (if upR (fr (P / Q)) P Q dir then fr (P / Q) + 1 else fr (P / Q)) dir
  generalize fr (P / Q) = k at s1 s2
  have s1' : fV (k : Int) * Q ≤ P := by rw [fV_nat, ← Int.natCast_mul]; omega
  have s2' : (P : Int) < fV ((k : Int) + 1) * Q := by rw [show (k : Int) + 1 = ((k + 1 : Nat) : Int) by omega, fV_nat, ← Int.natCast_mul]; omega
  have hd : d = if k ≤ 9218868437227405311 then (k : Int) else 9218868437227405311 := by
    have up : ∀ {i : Int}, fV i * Q ≤ P → i ≤ k := by
      intro i hi
      have := (mulQ_lt hQ).1 (Int.lt_of_le_of_lt hi s2')
      have := fV_lt_iff.1 this
      omega
    have dn : ∀ {i : Int}, (P : Int) < fV i * Q → (k : Int) < i := by
      intro i hi
      have := (mulQ_lt hQ).1 (Int.lt_of_le_of_lt s1' hi)
      exact fV_lt_iff.1 this
    have h1 : d = -9218868437227405312 ∨ d ≤ k := h.le.imp id up
    have h2 : d = 9218868437227405311 ∨ (k : Int) < d + 1 := h.gt.imp id dn
    have h3 := h.lo
    have h4 := h.hi
    split <;> omega
  have ev : ∀ e : Nat, fV (e : Int) * Q = ((fv e * Q : Nat) : Int) := fun e => by rw [fV_nat, Int.natCast_mul]
  have two : (fV (k : Int) + fV ((k : Int) + 1)) * Q = (((fv k + fv (k + 1)) * Q : Nat) : Int) := by
    rw [show (k : Int) + 1 = ((k + 1 : Nat) : Int) by omega, fV_nat, fV_nat, Int.natCast_mul, Int.natCast_add]
  by_cases hk : k ≤ 9218868437227405311
  · rw [if_pos hk] at hd
    subst hd
    unfold refR
    rw [ev, two]
    have a0 : atI (k : Int) = k := by unfold atI; rw [if_neg (by omega)]; omega
    have a1 : atI ((k : Int) + 1) = k + 1 := by unfold atI; rw [if_neg (by omega)]; omega
    rw [a0, a1]
    by_cases e1 : fv k * Q = P
    · rw [if_pos (.inl ⟨by omega, by omega⟩)]
      have gap : (fv k + fv (k + 1)) * Q > 2 * P := by rw [Nat.add_mul]; omega
      rw [if_neg (show ¬ upR k P Q dir by unfold upR; omega), capF_lo hk]
    · by_cases e2 : dir < 0
      · rw [if_pos (.inr e2), if_neg (show ¬ upR k P Q dir by unfold upR; omega), capF_lo hk]
      · rw [if_neg (by omega)]
        by_cases e3 : 0 < dir
        · rw [if_pos e3, if_pos (show upR k P Q dir from .inl ⟨e3, e1⟩), capF_up hk (by omega)]
        · have e4 : dir = 0 := by omega
          rw [if_neg e3]
          by_cases e5 : (fv k + fv (k + 1)) * Q = 2 * P
          · rw [if_pos (by omega)]
            by_cases e6 : k % 2 = 0
            · rw [if_pos (by omega), if_neg (show ¬ upR k P Q dir by unfold upR; omega), capF_lo hk]
            · rw [if_neg (by omega), if_pos (show upR k P Q dir from .inr ⟨e4, .inr ⟨e5, by omega⟩⟩), capF_up hk (by omega)]
          · rw [if_neg (by omega)]
            by_cases e6 : (fv k + fv (k + 1)) * Q < 2 * P
            · rw [if_pos (by omega), if_pos (show upR k P Q dir from .inr ⟨e4, .inl e6⟩), capF_up hk (by omega)]
            · rw [if_neg (by omega), if_neg (show ¬ upR k P Q dir by unfold upR; omega), capF_lo hk]
  · rw [if_neg hk] at hd
    subst hd
    have big : fv 9218868437227405312 * Q ≤ P := Nat.le_trans (Nat.mul_le_mul_right _ (fv_le.2 (by omega))) s1
    have near : fv 9218868437227405311 * Q < fv 9218868437227405312 * Q := Nat.mul_lt_mul_of_pos_right (fv_lt (by omega)) hQ
    have v1 : fV 9218868437227405311 * Q = ((fv 9218868437227405311 * Q : Nat) : Int) := ev 9218868437227405311
    have v2 : fV (9218868437227405311 + 1) * Q = ((fv 9218868437227405312 * Q : Nat) : Int) := ev 9218868437227405312
    unfold refR
    rw [Int.add_mul, v1, v2]
    have a0 : atI 9218868437227405311 = 9218868437227405311 := by decide
    have a1 : atI (9218868437227405311 + 1) = 9218868437227405312 := by decide
    rw [a0, a1]
    generalize fv 9218868437227405312 * Q = X at *
    generalize fv 9218868437227405311 * Q = Y at *
    have hX : (X : Int) ≤ P := by omega
    rw [capF_hi (k := if upR k P Q dir then k + 1 else k) (by split <;> omega)]
    by_cases e2 : dir < 0
    · rw [if_pos (Or.inr e2), if_neg (by omega)]
    · rw [if_neg (show ¬ ((-9218868437227405311 : Int) ≤ 9218868437227405311 ∧ (Y : Int) = P ∨ dir < 0) by omega), if_pos (show 0 ≤ dir by omega)]
      by_cases e3 : 0 < dir
      · rw [if_pos e3]
      · rw [if_neg e3, if_neg (by omega), if_pos (by omega)]
/-- Of an amount below 0. -/
theorem ref_neg {P Q : Nat} {d dir : Int} (hQ : 0 < Q) (hP : 0 < P) (h : IsDn (-(P : Int)) Q d) : refR (-(P : Int)) Q d dir = rnd true P Q dir := by
  obtain ⟨s1, s2⟩ := fr_quot_spec (A := P) hQ
  show _ = capR true (if upR (fr (P / Q)) P Q (-dir) then fr (P / Q) + 1 else fr (P / Q)) (-dir)
  generalize fr (P / Q) = k at s1 s2
  have s1' : -(P : Int) ≤ fV (-(k : Int)) * Q := by rw [fV_neg, fV_nat, Int.neg_mul, ← Int.natCast_mul]; omega
  have s2' : fV (-((k : Int) + 1)) * Q < -(P : Int) := by rw [fV_neg, show (k : Int) + 1 = ((k + 1 : Nat) : Int) by omega, fV_nat, Int.neg_mul, ← Int.natCast_mul]; omega
  have up : ∀ {i : Int}, fV i * Q ≤ -(P : Int) → i ≤ -(k : Int) := by
    intro i hi
    have h3 := Int.le_trans hi s1'
    by_cases hc : -(k : Int) < i
    · have := (mulQ_lt hQ).2 (fV_lt hc); omega
    · omega
  have dn : ∀ {i : Int}, -(P : Int) < fV i * Q → -((k : Int) + 1) < i := by
    intro i hi
    exact fV_lt_iff.1 ((mulQ_lt hQ).1 (Int.lt_trans s2' hi))
  have ev : ∀ e : Nat, fV (-(e : Int)) * Q = -((fv e * Q : Nat) : Int) := fun e => by rw [fV_neg, fV_nat, Int.neg_mul, Int.natCast_mul]
  by_cases hk : k ≤ 9218868437227405311
  · by_cases e1 : fv k * Q = P
    · have hk0 : k ≠ 0 := by intro e; subst e; rw [fv_zero] at e1; omega
      have hd : d = -(k : Int) := by
        have h1 : d = -9218868437227405312 ∨ d ≤ -(k : Int) := h.le.imp id up
        have h2 : d = 9218868437227405311 ∨ -(k : Int) < d + 1 := by
          refine h.gt.imp id fun hg => ?_
          have h3 := ev k
          rw [e1] at h3
          rw [← h3] at hg
          exact fV_lt_iff.1 ((mulQ_lt hQ).1 hg)
        omega
      subst hd
      unfold refR
      rw [if_pos (.inl ⟨by omega, by rw [ev, e1]⟩)]
      have gap : (fv k + fv (k + 1)) * Q > 2 * P := by rw [Nat.add_mul]; omega
      rw [if_neg (show ¬ upR k P Q (-dir) by unfold upR; omega), capT_lo hk, if_neg hk0]
      unfold atI
      rw [if_pos (by omega)]
      omega
    · have hd : d = -((k : Int) + 1) := by
        have h1 : d = -9218868437227405312 ∨ d < -(k : Int) := by
          refine h.le.imp id fun hl => ?_
          have h3 := up hl
          by_cases h4 : d = -(k : Int)
          · subst h4; rw [ev] at hl; omega
          · omega
        have h2 : d = 9218868437227405311 ∨ -((k : Int) + 1) < d + 1 := h.gt.imp id dn
        omega
      subst hd
      unfold refR
      have v1 : fV (-((k : Int) + 1)) * Q = -((fv (k + 1) * Q : Nat) : Int) := by rw [← ev (k + 1)]; rfl
      have v2 : fV (-((k : Int) + 1) + 1) * Q = -((fv k * Q : Nat) : Int) := by rw [← ev k]; congr 2; omega
      rw [Int.add_mul, v1, v2]
      have a0 : atI (-((k : Int) + 1)) = k + 1 + 9223372036854775808 := by unfold atI; rw [if_pos (by omega)]; omega
      have a1 : atI (-((k : Int) + 1) + 1) = if k = 0 then 0 else k + 9223372036854775808 := by unfold atI; split <;> split <;> omega
      rw [a0, a1]
      by_cases e2 : dir < 0
      · rw [if_pos (.inr e2), if_pos (show upR k P Q (-dir) from .inl ⟨by omega, e1⟩), capT_up hk (by omega)]
      · rw [if_neg (by omega)]
        by_cases e3 : 0 < dir
        · rw [if_pos e3, if_neg (show ¬ upR k P Q (-dir) by unfold upR; omega), capT_lo hk]
        · have e4 : dir = 0 := by omega
          rw [if_neg e3]
          by_cases e5' : fv k * Q + fv (k + 1) * Q = 2 * P
          · rw [if_pos (by omega)]
            by_cases e6 : k % 2 = 0
            · rw [if_neg (by omega), if_neg (show ¬ upR k P Q (-dir) by unfold upR; rw [Nat.add_mul]; omega), capT_lo hk]
            · rw [if_pos (by omega), if_pos (show upR k P Q (-dir) from .inr ⟨by omega, .inr ⟨by rw [Nat.add_mul]; exact e5', by omega⟩⟩), capT_up hk (by omega)]
          · rw [if_neg (by omega)]
            by_cases e6' : fv k * Q + fv (k + 1) * Q < 2 * P
            · rw [if_neg (by omega), if_pos (show upR k P Q (-dir) from .inr ⟨by omega, .inl (by rw [Nat.add_mul]; exact e6')⟩), capT_up hk (by omega)]
            · rw [if_pos (by omega), if_neg (show ¬ upR k P Q (-dir) by unfold upR; rw [Nat.add_mul]; omega), capT_lo hk]
  · have hd : d = -9218868437227405312 := by
      have h1 : d = -9218868437227405312 ∨ d ≤ -(k : Int) := h.le.imp id up
      have := h.lo
      omega
    subst hd
    have big : fv 9218868437227405312 * Q ≤ P := Nat.le_trans (Nat.mul_le_mul_right _ (fv_le.2 (by omega))) s1
    have near : fv 9218868437227405311 * Q < fv 9218868437227405312 * Q := Nat.mul_lt_mul_of_pos_right (fv_lt (by omega)) hQ
    have v1 : fV (-9218868437227405312) * Q = -((fv 9218868437227405312 * Q : Nat) : Int) := ev 9218868437227405312
    have v2 : fV (-9218868437227405312 + 1) * Q = -((fv 9218868437227405311 * Q : Nat) : Int) := ev 9218868437227405311
    unfold refR
    rw [Int.add_mul, v1, v2]
    have a0 : atI (-9218868437227405312) = 9218868437227405312 + 9223372036854775808 := by decide
    have a1 : atI (-9218868437227405312 + 1) = 9218868437227405311 + 9223372036854775808 := by decide
    rw [a0, a1]
    generalize fv 9218868437227405312 * Q = X at *
    generalize fv 9218868437227405311 * Q = Y at *
    rw [capT_hi (k := if upR k P Q (-dir) then k + 1 else k) (by split <;> omega)]
    by_cases e2 : dir < 0
    · rw [if_pos (Or.inr e2), if_pos (by omega)]
    · rw [if_neg (show ¬ ((-9218868437227405311 : Int) ≤ -9218868437227405312 ∧ -(X : Int) = -(P : Int) ∨ dir < 0) by omega)]
      by_cases e3 : 0 < dir
      · rw [if_pos e3, if_neg (by omega)]
      · rw [if_neg e3, if_neg (by omega), if_neg (by omega), if_pos (by omega)]
/-- The reference's rounding of P / Q. -/
theorem ref_rnd {P : Int} {Q : Nat} {d dir : Int} (hQ : 0 < Q) (h : IsDn P Q d) : refR P Q d dir = rnd (decide (P < 0)) P.natAbs Q dir := by
  by_cases hP : P < 0
  · rw [decide_eq_true hP]
    have e : P = -((P.natAbs : Nat) : Int) := by omega
    have := ref_neg (P := P.natAbs) (d := d) (dir := dir) hQ (by omega) (by rw [← e]; exact h)
    rw [← this, ← e]
  · rw [decide_eq_false hP]
    have e : P = ((P.natAbs : Nat) : Int) := by omega
    have := ref_pos (P := P.natAbs) (d := d) (dir := dir) hQ (by rw [← e]; exact h)
    rw [← this, ← e]
end Go.Sim
