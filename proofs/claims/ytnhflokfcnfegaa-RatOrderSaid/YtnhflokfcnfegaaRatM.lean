/- What is proved: plain laws of quotients: what has a common part, products, powers, order. -/
import Derived.Test.YtnhflokfcnfegaaBig1
namespace Go.Sim
open Go.RowKit

theorem madeS_scale {neg : Bool} {n d c : Nat} (hc : 0 < c) : madeS neg (n * c) (d * c) = madeS neg n d := by
  have h1 : n * c / (Nat.gcd n d * c) = n / Nat.gcd n d := Nat.mul_div_mul_right _ _ hc
  have h2 : d * c / (Nat.gcd n d * c) = d / Nat.gcd n d := Nat.mul_div_mul_right _ _ hc
  simp only [madeS, Nat.gcd_mul_right, h1, h2]

theorem madeS_cop {neg : Bool} {n d : Nat} (h : Nat.gcd n d = 1) : madeS neg n d = if n < 9223372036854775808 ∧ d < 9223372036854775808 then (((if neg then -(n : Int) else (n : Int)), (d : Int)), 0) else ((0, 0), 3) := by
  simp only [madeS, h, Nat.div_one]

def mulS (a b : Int × Int) : (Int × Int) × Int :=
  if (rightS a.1 a.2 && rightS b.1 b.2) = true then madeS (decide (a.1 < 0) != decide (b.1 < 0)) (a.1.natAbs * b.1.natAbs) (a.2.natAbs * b.2.natAbs) else ((0, 0), 1)

def divS (a b : Int × Int) : (Int × Int) × Int :=
  if (rightS a.1 a.2 && rightS b.1 b.2) = true then (if b.1 = 0 then ((0, 0), 6) else madeS (decide (a.1 < 0) != decide (b.1 < 0)) (a.1.natAbs * b.2.natAbs) (a.2.natAbs * b.1.natAbs)) else ((0, 0), 1)

def oddI (n : Int) : Bool := n.natAbs % 2 == 1

def powS (a : Int × Int) (n : Int) : (Int × Int) × Int :=
  if (rightS a.1 a.2 && (decide (-64 ≤ n) && decide (n ≤ 64))) = true then
    (if n < 0 then (if a.1 = 0 then ((0, 0), 6) else madeS (decide (a.1 < 0) && oddI n) (a.2.natAbs ^ n.natAbs) (a.1.natAbs ^ n.natAbs))
    else madeS (decide (a.1 < 0) && oddI n) (a.1.natAbs ^ n.natAbs) (a.2.natAbs ^ n.natAbs)) else ((0, 0), 1)

def sgnS (x y : Int) : Int := if x < y then -1 else if y < x then 1 else 0

def ratCmpS (a b : Int × Int) : Int := if (rightS a.1 a.2 && rightS b.1 b.2) = true then sgnS (a.1 * b.2) (b.1 * a.2) else 0

theorem rightS_spec {n d : Int} : rightS n d = true ↔ 1 ≤ d ∧ n ≠ -9223372036854775808 ∧ Nat.gcd n.natAbs d.natAbs = 1 := by
  simp [rightS]

/-- Two quotients that have no common part: their product, with what goes into both taken off ahead. -/
theorem mul_red {neg : Bool} {A B C D : Nat} (hA : Nat.gcd A C = 1) (hB : Nat.gcd B D = 1) (hC : C ≠ 0) (hD : D ≠ 0) :
    Nat.gcd (A / Nat.gcd A D * (B / Nat.gcd B C)) (C / Nat.gcd B C * (D / Nat.gcd A D)) = 1 ∧
    madeS neg (A * B) (C * D) = madeS neg (A / Nat.gcd A D * (B / Nat.gcd B C)) (C / Nat.gcd B C * (D / Nat.gcd A D)) := by
  have hg : 0 < Nat.gcd A D := Nat.gcd_pos_of_pos_right _ (by omega)
  have hk : 0 < Nat.gcd B C := Nat.gcd_pos_of_pos_right _ (by omega)
  have cA : Nat.Coprime A C := hA
  have cB : Nat.Coprime B D := hB
  have e1 : A = A / Nat.gcd A D * Nat.gcd A D := (Nat.div_mul_cancel (Nat.gcd_dvd_left A D)).symm
  have e2 : D = D / Nat.gcd A D * Nat.gcd A D := (Nat.div_mul_cancel (Nat.gcd_dvd_right A D)).symm
  have e3 : B = B / Nat.gcd B C * Nat.gcd B C := (Nat.div_mul_cancel (Nat.gcd_dvd_left B C)).symm
  have e4 : C = C / Nat.gcd B C * Nat.gcd B C := (Nat.div_mul_cancel (Nat.gcd_dvd_right B C)).symm
  have d1 : A / Nat.gcd A D ∣ A := Nat.div_dvd_of_dvd (Nat.gcd_dvd_left A D)
  have d2 : D / Nat.gcd A D ∣ D := Nat.div_dvd_of_dvd (Nat.gcd_dvd_right A D)
  have d3 : B / Nat.gcd B C ∣ B := Nat.div_dvd_of_dvd (Nat.gcd_dvd_left B C)
  have d4 : C / Nat.gcd B C ∣ C := Nat.div_dvd_of_dvd (Nat.gcd_dvd_right B C)
  have c1 : Nat.Coprime (A / Nat.gcd A D) (C / Nat.gcd B C) := (cA.coprime_dvd_left d1).coprime_dvd_right d4
  have c2 : Nat.Coprime (A / Nat.gcd A D) (D / Nat.gcd A D) := Nat.coprime_div_gcd_div_gcd hg
  have c3 : Nat.Coprime (B / Nat.gcd B C) (C / Nat.gcd B C) := Nat.coprime_div_gcd_div_gcd hk
  have c4 : Nat.Coprime (B / Nat.gcd B C) (D / Nat.gcd A D) := (cB.coprime_dvd_left d3).coprime_dvd_right d2
  refine ⟨(c1.mul_right c2).mul_left (c3.mul_right c4), ?_⟩
  have m1 : A * B = A / Nat.gcd A D * (B / Nat.gcd B C) * (Nat.gcd A D * Nat.gcd B C) := by
    conv => lhs; rw [e1, e3]
    rw [Nat.mul_mul_mul_comm]
  have m2 : C * D = C / Nat.gcd B C * (D / Nat.gcd A D) * (Nat.gcd A D * Nat.gcd B C) := by
    conv => lhs; rw [e4, e2]
    rw [Nat.mul_mul_mul_comm, Nat.mul_comm (Nat.gcd B C)]
  rw [m1, m2, madeS_scale (Nat.mul_pos hg hk)]

theorem mul64_ok {a b x0 x1 y0 y1 w0 t w1 : Nat} (ha : a = x1 * 4294967296 + x0) (hb : b = y1 * 4294967296 + y0) (h0 : w0 = x0 * y0) (ht : t = x1 * y0 + w0 / 4294967296) (h1 : w1 = t % 4294967296 + x0 * y1) :
    x1 * y1 + t / 4294967296 + w1 / 4294967296 = a * b / 18446744073709551616 := by
  have e : a * b = x1 * y1 * 18446744073709551616 + (x1 * y0 + x0 * y1) * 4294967296 + x0 * y0 := by
    rw [ha, hb, Nat.add_mul, Nat.mul_add, Nat.mul_add, Nat.add_mul]
    have e1 : x1 * 4294967296 * (y1 * 4294967296) = x1 * y1 * 18446744073709551616 := by rw [Nat.mul_mul_mul_comm]
    have e2 : x1 * 4294967296 * y0 = x1 * y0 * 4294967296 := Nat.mul_right_comm _ _ _
    have e3 : x0 * (y1 * 4294967296) = x0 * y1 * 4294967296 := (Nat.mul_assoc _ _ _).symm
    omega
  generalize x1 * y1 = p11 at *
  generalize x1 * y0 = p10 at *
  generalize x0 * y1 = p01 at *
  generalize x0 * y0 = p00 at *
  generalize a * b = ab at *
  omega

theorem and32 {a : Nat} (h : a < 18446744073709551616) : bits .and .u64 (a : Int) 4294967295 = ((a % 4294967296 : Nat) : Int) := by
  have hk : ∀ n : Int, 0 ≤ n → n < 2 ^ 64 → IntKind.u64.wrap n = n := fun n h0 h1 => wu h0 (by simpa using h1)
  have := bits_mask .u64 64 (by simp [IntKind.bits]) hk 32 (by omega) (a : Int) (by omega) (by simp; omega)
  rw [show ((2 : Int) ^ 32 - 1) = 4294967295 from rfl] at this
  rw [this]
  omega

theorem shr32 (a : Nat) : Int.fdiv (a : Int) (2 ^ (min (32 : Int).toNat IntKind.u64.bits)) = ((a / 4294967296 : Nat) : Int) := by
  simp [IntKind.bits]; rw [Int.fdiv_eq_ediv_of_nonneg _ (by omega)]

theorem pow_len {a i : Nat} (ha : (dig a).length ≤ 2) : (dig (a ^ (i + 1))).length ≤ 2 * (i + 1) + 1 := by
  refine Nat.le_trans (dig_length (k := 2 * (i + 1)) ?_) (by omega)
  have h := dig_upper a
  have h2 : a < 4294967296 ^ 2 := Nat.lt_of_lt_of_le h (Nat.pow_le_pow_right (by omega) ha)
  rw [Nat.pow_mul]
  exact Nat.pow_lt_pow_left h2 (by omega)

theorem pow_len' {a n : Nat} (ha : (dig a).length ≤ 2) (hn : n ≤ 64) : (dig (a ^ n)).length ≤ 10000 := by
  cases n with
  | zero => exact Nat.le_trans (dig_length (k := 1) (by simp)) (by omega)
  | succ n => exact Nat.le_trans (pow_len ha) (by omega)

theorem slt {x y p q : Int} (hp : 1 ≤ p) (hq : 1 ≤ q) (hx : x ≤ 0) (hy : 0 ≤ y) (h : x < y) : x * p < y * q := by
  rcases Int.lt_or_le x 0 with h0 | h0
  · have h1 : x * p < 0 := Int.mul_neg_of_neg_of_pos h0 (by omega)
    have h2 : 0 ≤ y * q := Int.mul_nonneg hy (by omega)
    omega
  · have e : x = 0 := by omega
    subst e
    have h2 : 0 < y * q := Int.mul_pos (by omega) (by omega)
    omega

theorem cop_eq {A B C D : Nat} (hA : Nat.gcd A C = 1) (hB : Nat.gcd B D = 1) (h : A * D = B * C) : A = B ∧ C = D := by
  have cA : Nat.Coprime A C := hA
  have cB : Nat.Coprime B D := hB
  have d1 : A ∣ B := cA.dvd_of_dvd_mul_right ⟨D, h.symm⟩
  have d2 : B ∣ A := cB.dvd_of_dvd_mul_right ⟨C, h⟩
  have d3 : C ∣ D := (Nat.Coprime.symm cA).dvd_of_dvd_mul_left ⟨B, by rw [h, Nat.mul_comm]⟩
  have d4 : D ∣ C := (Nat.Coprime.symm cB).dvd_of_dvd_mul_left ⟨A, by rw [← h, Nat.mul_comm]⟩
  exact ⟨Nat.dvd_antisymm d1 d2, Nat.dvd_antisymm d3 d4⟩

/-- One is not above 0, the other not below: which is less. -/
theorem cmp_far {a1 a2 b1 b2 : Int} (ra : rightS a1 a2 = true) (rb : rightS b1 b2 = true) (hne : ¬ (a1 = b1 ∧ a2 = b2)) (hz : (a1 ≤ 0 ∧ 0 ≤ b1) ∨ (b1 ≤ 0 ∧ 0 ≤ a1)) : sgnS (a1 * b2) (b1 * a2) = if a1 < b1 then -1 else 1 := by
  obtain ⟨p1, p2, p3⟩ := rightS_spec.1 ra
  obtain ⟨q1, q2, q3⟩ := rightS_spec.1 rb
  have hne' : a1 ≠ b1 := by
    rintro rfl
    have : a1 = 0 := by omega
    subst this
    simp at p3 q3
    exact hne ⟨rfl, by omega⟩
  by_cases h : a1 < b1
  · rw [if_pos h, sgnS, if_pos (slt q1 p1 (by omega) (by omega) h)]
  · have h2 : b1 * a2 < a1 * b2 := slt p1 q1 (by omega) (by omega) (by omega)
    rw [if_neg h, sgnS, if_neg (by omega), if_pos h2]

/-- Both on one side of 0: by the amounts. -/
theorem cmp_near {a1 a2 b1 b2 : Int} (ra : rightS a1 a2 = true) (rb : rightS b1 b2 = true) (hne : ¬ (a1 = b1 ∧ a2 = b2)) (hs : (a1 < 0 ∧ b1 < 0) ∨ (0 < a1 ∧ 0 < b1)) :
    sgnS (a1 * b2) (b1 * a2) = if (decide (a1.natAbs * b2.natAbs < b1.natAbs * a2.natAbs) != decide (a1 < 0)) = true then -1 else 1 := by
  obtain ⟨p1, p2, p3⟩ := rightS_spec.1 ra
  obtain ⟨q1, q2, q3⟩ := rightS_spec.1 rb
  have hxy : a1.natAbs * b2.natAbs ≠ b1.natAbs * a2.natAbs := fun h => by
    have := cop_eq p3 q3 h
    exact hne ⟨by omega, by omega⟩
  have e2 : ((a2.natAbs : Nat) : Int) = a2 := by omega
  have e4 : ((b2.natAbs : Nat) : Int) = b2 := by omega
  rcases hs with ⟨h1, h2⟩ | ⟨h1, h2⟩
  · have e1 : a1 = -((a1.natAbs : Nat) : Int) := by omega
    have e3 : b1 = -((b1.natAbs : Nat) : Int) := by omega
    have f1 : a1 * b2 = -((a1.natAbs * b2.natAbs : Nat) : Int) := by rw [Int.natCast_mul, e4, ← Int.neg_mul, ← e1]
    have f2 : b1 * a2 = -((b1.natAbs * a2.natAbs : Nat) : Int) := by rw [Int.natCast_mul, e2, ← Int.neg_mul, ← e3]
    rw [f1, f2, show decide (a1 < 0) = true by simpa using h1, sgnS]
    generalize a1.natAbs * b2.natAbs = X at *
    generalize b1.natAbs * a2.natAbs = Y at *
    by_cases h : X < Y
    · rw [if_neg (by omega), if_pos (by omega), show decide (X < Y) = true by simpa using h]; rfl
    · rw [if_pos (by omega), show decide (X < Y) = false by simpa using h]; rfl
  · have e1 : a1 = ((a1.natAbs : Nat) : Int) := by omega
    have e3 : b1 = ((b1.natAbs : Nat) : Int) := by omega
    have f1 : a1 * b2 = ((a1.natAbs * b2.natAbs : Nat) : Int) := by rw [Int.natCast_mul, e4, ← e1]
    have f2 : b1 * a2 = ((b1.natAbs * a2.natAbs : Nat) : Int) := by rw [Int.natCast_mul, e2, ← e3]
    rw [f1, f2, show decide (a1 < 0) = false by simp; omega, sgnS]
    generalize a1.natAbs * b2.natAbs = X at *
    generalize b1.natAbs * a2.natAbs = Y at *
    by_cases h : X < Y
    · rw [if_pos (by omega), show decide (X < Y) = true by simpa using h]; rfl
    · rw [if_neg (by omega), if_pos (by omega), show decide (X < Y) = false by simpa using h]; rfl

def valS (s : Bool) (m : Nat) : Int := if s = true then -(m : Int) else (m : Int)
def sgS (s : Bool) (m : Nat) : Int := if m = 0 then 0 else if s = true then -1 else 1

theorem cmpS_bd (a b : Nat) : -1 ≤ cmpS a b ∧ cmpS a b ≤ 1 := by
  unfold cmpS
  split
  · omega
  · split <;> omega

theorem ord_diff {s t : Bool} {m n : Nat} (hs : m = 0 → s = false) (ht : n = 0 → t = false) (h : sgS s m ≠ sgS t n) : sgnS (valS s m) (valS t n) = if sgS s m < sgS t n then -1 else 1 := by
  unfold sgS at *
  unfold valS sgnS
  by_cases h1 : m = 0 <;> by_cases h2 : n = 0 <;> cases s <;> cases t <;> simp_all <;> omega

theorem ord_zero {s t : Bool} {m n : Nat} (h : sgS s m = sgS t n) (h0 : sgS s m = 0) : sgnS (valS s m) (valS t n) = 0 := by
  unfold sgS at *
  unfold valS sgnS
  by_cases h1 : m = 0 <;> by_cases h2 : n = 0 <;> cases s <;> cases t <;> simp_all

theorem ord_same {s t : Bool} {m n : Nat} (h : sgS s m = sgS t n) (h0 : sgS s m ≠ 0) : sgnS (valS s m) (valS t n) = if s = true then -(cmpS m n) else cmpS m n := by
  have hs : s = t := by
    unfold sgS at *
    by_cases h1 : m = 0 <;> by_cases h2 : n = 0 <;> cases s <;> cases t <;> simp_all
  subst hs
  unfold valS sgnS cmpS
  by_cases h1 : m < n
  · cases s
    · simp [h1]
    · simp [h1]; omega
  · by_cases h2 : n < m
    · cases s
      · simp [h1, h2]
      · simp [h1, h2]
    · cases s
      · simp [h1, h2]
      · simp [h1, h2]

theorem blen_cmp {a b : Nat} (h : blen a < blen b) : a < b := by
  rcases Nat.lt_or_ge a b with h' | h'
  · exact h'
  · have := blen_mono h'; omega

theorem prod_val {n d : Int} (hd : 1 ≤ d) : valS (decide (n.natAbs * d.natAbs ≠ 0) && (decide (n < 0) != decide (d < 0))) (n.natAbs * d.natAbs) = n * d := by
  have e2 : ((d.natAbs : Nat) : Int) = d := by omega
  have hd0 : d.natAbs ≠ 0 := by omega
  rw [show decide (d < 0) = false by simp; omega]
  by_cases h : n < 0
  · have h1 : n.natAbs ≠ 0 := by omega
    have h2 : n.natAbs * d.natAbs ≠ 0 := Nat.mul_ne_zero h1 hd0
    rw [show decide (n < 0) = true by simpa using h, show decide (n.natAbs * d.natAbs ≠ 0) = true from decide_eq_true h2]
    simp only [valS, Bool.true_and, if_true, Bool.bne_false, Int.natCast_mul, e2]
    rw [← Int.neg_mul]
    congr 1
    omega
  · rw [show decide (n < 0) = false by simpa using h]
    simp only [valS, bne_self_eq_false, Bool.and_false, Bool.false_eq_true, if_false, Int.natCast_mul, e2]
    congr 1
    omega

theorem tmod2 (n : Int) : (Int.tmod n 2 != 0) = oddI n := by
  unfold oddI
  rw [Bool.eq_iff_iff]
  simp only [bne_iff_ne, ne_eq, beq_iff_eq]
  rcases Int.le_total 0 n with h | h
  · rw [Int.tmod_eq_emod_of_nonneg h]; omega
  · obtain ⟨m, rfl⟩ : ∃ m : Int, n = -m := ⟨-n, by omega⟩
    rw [Int.neg_tmod, Int.tmod_eq_emod_of_nonneg (by omega)]; omega

theorem mul_len {a b : Nat} (ha : (dig a).length ≤ 2) (hb : (dig b).length ≤ 2) : (dig (a * b)).length ≤ 100000 := by
  refine Nat.le_trans (dig_length (k := 4) ?_) (by omega)
  have h1 : a < 4294967296 ^ 2 := Nat.lt_of_lt_of_le (dig_upper a) (Nat.pow_le_pow_right (by omega) ha)
  have h2 : b < 4294967296 ^ 2 := Nat.lt_of_lt_of_le (dig_upper b) (Nat.pow_le_pow_right (by omega) hb)
  have h3 := Nat.mul_lt_mul'' h1 h2
  rw [← Nat.pow_add] at h3
  exact h3

/-! ### Powers, one factor after the other -/

def PowI (a1 a2 x y : Int) (i : Nat) : Prop :=
  rightS x y = true ∧ x.natAbs = a1.natAbs ^ i ∧ y.natAbs = a2.natAbs ^ i ∧ decide (x < 0) = (decide (a1 < 0) && (i % 2 == 1)) ∧ inI x ∧ inI y

theorem powI_zero (a1 a2 : Int) : PowI a1 a2 1 1 0 := by
  refine ⟨by decide, by simp, by simp, by simp, ⟨by omega, by omega⟩, ⟨by omega, by omega⟩⟩

theorem pow_cop {a1 a2 : Int} (ra : rightS a1 a2 = true) (i : Nat) : Nat.gcd (a1.natAbs ^ i) (a2.natAbs ^ i) = 1 := by
  obtain ⟨p1, p2, p3⟩ := rightS_spec.1 ra
  have c : Nat.Coprime a1.natAbs a2.natAbs := p3
  exact c.pow i i

theorem pow_mul {a1 a2 x y : Int} {i : Nat} (ra : rightS a1 a2 = true) (h : PowI a1 a2 x y i) : mulS (x, y) (a1, a2) =
    if a1.natAbs ^ (i + 1) < 9223372036854775808 ∧ a2.natAbs ^ (i + 1) < 9223372036854775808 then
      (((if (decide (a1 < 0) && ((i + 1) % 2 == 1)) = true then -((a1.natAbs ^ (i + 1) : Nat) : Int) else ((a1.natAbs ^ (i + 1) : Nat) : Int)), ((a2.natAbs ^ (i + 1) : Nat) : Int)), 0) else ((0, 0), 3) := by
  obtain ⟨k1, k2, k3, k4, _⟩ := h
  rw [mulS, if_pos (by simp [k1, ra])]
  simp only [k2, k3, ← Nat.pow_succ]
  rw [madeS_cop (pow_cop ra (i + 1)), k4]
  have e : ((decide (a1 < 0) && (i % 2 == 1)) != decide (a1 < 0)) = (decide (a1 < 0) && ((i + 1) % 2 == 1)) := by
    by_cases h0 : a1 < 0
    · rw [show decide (a1 < 0) = true by simpa using h0]
      rcases Nat.mod_two_eq_zero_or_one i with h1 | h1
      · rw [h1, show (i + 1) % 2 = 1 by omega]; rfl
      · rw [h1, show (i + 1) % 2 = 0 by omega]; rfl
    · rw [show decide (a1 < 0) = false by simpa using h0]; rfl
  rw [e]

theorem pow_next {a1 a2 : Int} {i : Nat} (ra : rightS a1 a2 = true) (h1 : a1.natAbs ^ (i + 1) < 9223372036854775808) (h2 : a2.natAbs ^ (i + 1) < 9223372036854775808) :
    PowI a1 a2 (if (decide (a1 < 0) && ((i + 1) % 2 == 1)) = true then -((a1.natAbs ^ (i + 1) : Nat) : Int) else ((a1.natAbs ^ (i + 1) : Nat) : Int)) ((a2.natAbs ^ (i + 1) : Nat) : Int) (i + 1) := by
  have c := pow_cop ra (i + 1)
  obtain ⟨p1, p2, p3⟩ := rightS_spec.1 ra
  have hp : 0 < a2.natAbs ^ (i + 1) := Nat.pow_pos (by omega)
  generalize hX : a1.natAbs ^ (i + 1) = X at *
  generalize hY : a2.natAbs ^ (i + 1) = Y at *
  by_cases hs : (decide (a1 < 0) && ((i + 1) % 2 == 1)) = true
  · have hX0 : 0 < X := by
      rw [← hX]
      simp only [Bool.and_eq_true, decide_eq_true_eq] at hs
      exact Nat.pow_pos (by omega)
    rw [if_pos hs]
    refine ⟨rightS_spec.2 ⟨by omega, by omega, by rw [Int.natAbs_neg, Int.natAbs_natCast, Int.natAbs_natCast]; exact c⟩, by omega, by omega, ?_, ⟨by omega, by omega⟩, ⟨by omega, by omega⟩⟩
    rw [hs]; simpa using (show -(X : Int) < 0 by omega)
  · rw [if_neg hs]
    refine ⟨rightS_spec.2 ⟨by omega, by omega, by rw [Int.natAbs_natCast, Int.natAbs_natCast]; exact c⟩, by omega, by omega, ?_, ⟨by omega, by omega⟩, ⟨by omega, by omega⟩⟩
    rw [Bool.eq_false_iff.2 hs]; simp

theorem pow_grow {a i n : Nat} (h : ¬ (a ^ (i + 1) < 9223372036854775808)) (hi : i < n) : ¬ (a ^ n < 9223372036854775808) := by
  have ha : 0 < a := by
    rcases Nat.eq_zero_or_pos a with h0 | h0
    · subst h0; simp at h
    · exact h0
  have := Nat.pow_le_pow_right (n := a) ha (show i + 1 ≤ n by omega)
  omega

theorem powS_nn {a1 a2 n : Int} (ra : rightS a1 a2 = true) (h0 : 0 ≤ n) (h1 : n ≤ 64) : powS (a1, a2) n = if a1.natAbs ^ n.natAbs < 9223372036854775808 ∧ a2.natAbs ^ n.natAbs < 9223372036854775808 then
      (((if (decide (a1 < 0) && (n.natAbs % 2 == 1)) = true then -((a1.natAbs ^ n.natAbs : Nat) : Int) else ((a1.natAbs ^ n.natAbs : Nat) : Int)), ((a2.natAbs ^ n.natAbs : Nat) : Int)), 0) else ((0, 0), 3) := by
  rw [powS, if_pos (by simp [ra, h1]; omega), if_neg (by omega), madeS_cop (pow_cop ra _)]
  rfl

theorem powS_done {a1 a2 x y n : Int} (ra : rightS a1 a2 = true) (h0 : 0 ≤ n) (h1 : n ≤ 64) (h : PowI a1 a2 x y n.natAbs) : powS (a1, a2) n = ((x, y), 0) := by
  obtain ⟨k1, k2, k3, k4, k5, k6⟩ := h
  obtain ⟨q1, q2, q3⟩ := rightS_spec.1 k1
  unfold inI at k5 k6
  rw [powS_nn ra h0 h1, ← k2, ← k3, ← k4, if_pos (by omega)]
  congr 2
  · by_cases hx : x < 0
    · rw [if_pos (by simpa using hx)]; omega
    · rw [if_neg (by simpa using hx)]; omega
  · omega

theorem powS_over {a1 a2 n : Int} {i : Nat} (ra : rightS a1 a2 = true) (h0 : 0 ≤ n) (h1 : n ≤ 64) (hi : i < n.natAbs) (h : ¬ (a1.natAbs ^ (i + 1) < 9223372036854775808 ∧ a2.natAbs ^ (i + 1) < 9223372036854775808)) : powS (a1, a2) n = ((0, 0), 3) := by
  rw [powS_nn ra h0 h1, if_neg]
  intro ⟨g1, g2⟩
  refine h ⟨?_, ?_⟩
  · exact Decidable.not_not.1 (fun hh => pow_grow hh hi g1)
  · exact Decidable.not_not.1 (fun hh => pow_grow hh hi g2)

/-- 1 by a quotient. -/
theorem div_one_S {a1 a2 : Int} (ra : rightS a1 a2 = true) (h1 : inI a1) (h2 : inI a2) : divS (1, 1) (a1, a2) = if a1 = 0 then ((0, 0), 6) else (((if a1 < 0 then -a2 else a2), (a1.natAbs : Int)), 0) := by
  obtain ⟨p1, p2, p3⟩ := rightS_spec.1 ra
  unfold inI at h1 h2
  rw [divS, if_pos (by simp [ra]; decide)]
  by_cases h0 : a1 = 0
  · simp [h0]
  · simp only [if_neg h0]
    rw [show (Int.natAbs 1 * a2.natAbs) = a2.natAbs by simp, show (Int.natAbs 1 * a1.natAbs) = a1.natAbs by simp, madeS_cop (by rw [Nat.gcd_comm]; exact p3), if_pos (by omega)]
    congr 2
    by_cases hs : a1 < 0
    · rw [if_pos hs, show decide (a1 < 0) = true by simpa using hs]; simp; omega
    · rw [if_neg hs, show decide (a1 < 0) = false by simpa using hs]; simp; omega

theorem pow_div {a1 a2 : Int} (h1 : inI a1) (h2 : inI a2) (ra : rightS a1 a2 = true) : inI (divS (1, 1) (a1, a2)).1.1 ∧ inI (divS (1, 1) (a1, a2)).1.1 ∧ inI (divS (1, 1) (a1, a2)).1.2 := by
  obtain ⟨p1, p2, p3⟩ := rightS_spec.1 ra
  rw [div_one_S ra h1 h2]
  unfold inI at *
  by_cases h0 : a1 = 0
  · rw [if_pos h0]; simp only; omega
  · rw [if_neg h0]; simp only
    by_cases hs : a1 < 0
    · rw [if_pos hs]; omega
    · rw [if_neg hs]; omega

theorem pow_neg_bad {a1 a2 n : Int} (ra : rightS a1 a2 = true) (h1 : inI a1) (h2 : inI a2) (hneg : n < 0) (hb : -64 ≤ n) (hz : (divS (1, 1) (a1, a2)).2 ≠ 0) : powS (a1, a2) n = ((0, 0), (divS (1, 1) (a1, a2)).2) := by
  rw [div_one_S ra h1 h2] at hz ⊢
  by_cases h0 : a1 = 0
  · rw [powS, if_pos (by simp [ra, hb]; omega), if_pos hneg, if_pos h0, if_pos h0]
  · rw [if_neg h0] at hz; exact absurd rfl hz

theorem pow_neg_ok {a1 a2 n : Int} (ra : rightS a1 a2 = true) (h1 : inI a1) (h2 : inI a2) (hneg : n < 0) (hb : -64 ≤ n) (hz : (divS (1, 1) (a1, a2)).2 = 0) :
    powS ((divS (1, 1) (a1, a2)).1.1, (divS (1, 1) (a1, a2)).1.2) (-n) = powS (a1, a2) n := by
  rw [div_one_S ra h1 h2] at hz ⊢
  by_cases h0 : a1 = 0
  · rw [if_pos h0] at hz; simp at hz
  · rw [if_neg h0]
    obtain ⟨p1, p2, p3⟩ := rightS_spec.1 ra
    unfold inI at h1 h2
    have e1 : (if a1 < 0 then -a2 else a2).natAbs = a2.natAbs := by split <;> omega
    have e2 : ((a1.natAbs : Nat) : Int).natAbs = a1.natAbs := by omega
    have hr : rightS (if a1 < 0 then -a2 else a2) (a1.natAbs : Int) = true := rightS_spec.2 ⟨by omega, by split <;> omega, by rw [e1, e2, Nat.gcd_comm]; exact p3⟩
    have e3 : decide ((if a1 < 0 then -a2 else a2) < 0) = decide (a1 < 0) := by rw [decide_eq_decide]; split <;> omega
    rw [powS, if_pos (by simp [hr]; omega), if_neg (by omega)]
    conv => rhs; rw [powS, if_pos (by simp [ra, hb]; omega), if_pos hneg, if_neg h0]
    simp only [e1, e2, e3, oddI, Int.natAbs_neg]

end Go.Sim
