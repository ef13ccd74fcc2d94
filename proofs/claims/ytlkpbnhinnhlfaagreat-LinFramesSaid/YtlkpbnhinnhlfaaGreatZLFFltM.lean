/- What is proved: the words of floats as rungs: their amounts, their order, and the rounding of exact quotients. -/
import Derived.Test.YtlkpbnhinnhlfaaGreatZLFBig
import Derived.Test.YtlkpbnhinnhlfaaGreatZLFSimD

namespace Go.Sim
open Go.RowKit
/-- The amount of a rung, in units of the least one. -/
def fv (r : Nat) : Nat := if r < 4503599627370496 then r else (4503599627370496 + r % 4503599627370496) * 2 ^ (r / 4503599627370496 - 1)
/-- The greatest rung whose amount is not above. -/
def fr (x : Nat) : Nat := (x.log2 - 52) * 4503599627370496 + x / 2 ^ (x.log2 - 52)
theorem fv_mk {q s : Nat} (h1 : q ≤ 9007199254740992) (h2 : 4503599627370496 ≤ q ∨ s = 0) : fv (s * 4503599627370496 + q) = q * 2 ^ s := by
  unfold fv
  by_cases h : q < 4503599627370496
  · have : s = 0 := h2.resolve_left (by omega)
    subst this
    rw [if_pos (by omega)]; simp
  · rw [if_neg (by omega)]
    by_cases h3 : q = 9007199254740992
    · subst h3
      have e1 : (s * 4503599627370496 + 9007199254740992) % 4503599627370496 = 0 := by omega
      have e2 : (s * 4503599627370496 + 9007199254740992) / 4503599627370496 - 1 = s + 1 := by omega
      rw [e1, e2, Nat.pow_succ]; omega
    · have e1 : (s * 4503599627370496 + q) % 4503599627370496 = q - 4503599627370496 := by omega
      have e2 : (s * 4503599627370496 + q) / 4503599627370496 - 1 = s := by omega
      rw [e1, e2, Nat.add_sub_cancel' (by omega)]
theorem rung_split (r : Nat) : ∃ s q, r = s * 4503599627370496 + q ∧ q < 9007199254740992 ∧ (4503599627370496 ≤ q ∨ s = 0) ∧ s = r / 4503599627370496 - 1 :=
  ⟨r / 4503599627370496 - 1, r - (r / 4503599627370496 - 1) * 4503599627370496, by omega, by omega, by omega, rfl⟩
theorem fv_gap (r : Nat) : fv (r + 1) = fv r + 2 ^ (r / 4503599627370496 - 1) := by
  obtain ⟨s, q, h1, h2, h3, h4⟩ := rung_split r
  rw [← h4, h1, Nat.add_assoc, fv_mk (by omega) h3, fv_mk (by omega) (h3.imp (fun _ => by omega) id), Nat.add_mul, Nat.one_mul]
theorem fv_step (r : Nat) : fv r < fv (r + 1) := by rw [fv_gap]; have : 0 < 2 ^ (r / 4503599627370496 - 1) := Nat.two_pow_pos _; omega
theorem fv_lt {r t : Nat} (h : r < t) : fv r < fv t := by
  induction t with
  | zero => omega
  | succ t ih =>
    rcases Nat.lt_or_ge r t with h' | h'
    · exact Nat.lt_trans (ih h') (fv_step t)
    · have : r = t := by omega
      subst this; exact fv_step r
theorem fv_le {r t : Nat} : fv r ≤ fv t ↔ r ≤ t := by
  constructor
  · intro h
    rcases Nat.lt_or_ge t r with h' | h'
    · have := fv_lt h'; omega
    · exact h'
  · intro h
    rcases Nat.lt_or_ge r t with h' | h'
    · exact Nat.le_of_lt (fv_lt h')
    · have : r = t := by omega
      rw [this]; exact Nat.le_refl _
theorem fv_lt_iff {r t : Nat} : fv r < fv t ↔ r < t := by
  rw [← Nat.not_le, ← Nat.not_le, fv_le]
theorem fv_zero : fv 0 = 0 := rfl
theorem fv_small {r : Nat} (h : r < 4503599627370496) : fv r = r := by unfold fv; rw [if_pos h]
theorem fr_spec (x : Nat) : fv (fr x) ≤ x ∧ x < fv (fr x + 1) := by
  have hp : 0 < 2 ^ (x.log2 - 52) := Nat.two_pow_pos _
  have hx : x < 2 ^ (x.log2 - 52) * 9007199254740992 := by
    have h := Nat.lt_log2_self (n := x)
    refine Nat.lt_of_lt_of_le h ?_
    rw [show (9007199254740992 : Nat) = 2 ^ 53 by decide, ← Nat.pow_add]
    exact Nat.pow_le_pow_right (by omega) (by omega)
  have q1 : x / 2 ^ (x.log2 - 52) < 9007199254740992 := Nat.div_lt_of_lt_mul hx
  have q2 : 4503599627370496 ≤ x / 2 ^ (x.log2 - 52) ∨ x.log2 - 52 = 0 := by
    by_cases h : x.log2 - 52 = 0
    · exact .inr h
    · left
      have hne : x ≠ 0 := by intro e; subst e; simp [Nat.log2_zero] at h
      rw [Nat.le_div_iff_mul_le hp, show (4503599627370496 : Nat) = 2 ^ 52 by decide, ← Nat.pow_add]
      refine Nat.le_trans ?_ (Nat.log2_self_le hne)
      exact Nat.pow_le_pow_right (by omega) (by omega)
  have e1 : fv (fr x) = x / 2 ^ (x.log2 - 52) * 2 ^ (x.log2 - 52) := fv_mk (by omega) q2
  have e2 : fv (fr x + 1) = (x / 2 ^ (x.log2 - 52) + 1) * 2 ^ (x.log2 - 52) := by
    rw [fr, Nat.add_assoc]; exact fv_mk (by omega) (q2.imp (fun _ => by omega) id)
  rw [e1, e2]
  have := Nat.div_add_mod x (2 ^ (x.log2 - 52))
  have hm := Nat.mod_lt x hp
  rw [Nat.add_mul, Nat.mul_comm (x / _)]
  omega
theorem fr_uniq {x k : Nat} (h1 : fv k ≤ x) (h2 : x < fv (k + 1)) : fr x = k := by
  have h := fr_spec x
  have a1 : fr x < k + 1 := fv_lt_iff.1 (by omega)
  have a2 : k < fr x + 1 := fv_lt_iff.1 (by omega)
  omega
theorem fr_quot {A B k : Nat} (hB : 0 < B) (h1 : fv k * B ≤ A) (h2 : A < fv (k + 1) * B) : fr (A / B) = k :=
  fr_uniq ((Nat.le_div_iff_mul_le hB).2 h1) (Nat.div_lt_of_lt_mul (by rw [Nat.mul_comm]; exact h2))
theorem fr_quot_spec {A B : Nat} (hB : 0 < B) : fv (fr (A / B)) * B ≤ A ∧ A < fv (fr (A / B) + 1) * B := by
  have h := fr_spec (A / B)
  refine ⟨(Nat.le_div_iff_mul_le hB).1 h.1, ?_⟩
  rw [Nat.mul_comm]
  exact (Nat.div_lt_iff_lt_mul hB).1 h.2 |> fun h => by rwa [Nat.mul_comm] at h
/-! ### Rounding -/
/-- Is the rung above taken? 'dir': of the amount. -/
def upR (k A B : Nat) (dir : Int) : Prop := (0 < dir ∧ fv k * B ≠ A) ∨ (dir = 0 ∧ ((fv k + fv (k + 1)) * B < 2 * A ∨ ((fv k + fv (k + 1)) * B = 2 * A ∧ k % 2 = 1)))
instance (k A B : Nat) (dir : Int) : Decidable (upR k A B dir) := by unfold upR; infer_instance
/-- The rung of the amount A / B, rounded. -/
def rndR (A B : Nat) (dir : Int) : Nat := if upR (fr (A / B)) A B dir then fr (A / B) + 1 else fr (A / B)
/-- The word of A / B (in units of the least amount), or of its negative, rounded; 0 is +0. -/
def capR (neg : Bool) (k : Nat) (dir : Int) : Nat :=
  if k = 0 then 0 else (if neg = true then 9223372036854775808 else 0) + if 9218868437227405312 ≤ k then (if 0 ≤ dir then 9218868437227405312 else 9218868437227405311) else k
def rnd (neg : Bool) (A B : Nat) (dir : Int) : Nat := capR neg (rndR A B (if neg = true then -dir else dir)) (if neg = true then -dir else dir)
/-! ### Words and their places -/
/-- A word's place in the floats' order. -/
def fI (b : Nat) : Int := if b < 9223372036854775808 then (b : Int) else -((b - 9223372036854775808 : Nat) : Int)
/-- A place's amount, with its sign. -/
def fV (i : Int) : Int := if 0 ≤ i then (fv i.toNat : Int) else -(fv i.natAbs : Int)
theorem fV_lt {i j : Int} (h : i < j) : fV i < fV j := by
  unfold fV
  split <;> split
  · have := fv_lt (r := i.toNat) (t := j.toNat) (by omega); omega
  · omega
  · have := fv_lt (r := 0) (t := i.natAbs) (by omega); rw [fv_zero] at this; omega
  · have := fv_lt (r := j.natAbs) (t := i.natAbs) (by omega); omega
theorem fV_lt_iff {i j : Int} : fV i < fV j ↔ i < j := by
  constructor
  · intro h
    by_cases h' : i < j
    · exact h'
    · by_cases e : i = j
      · subst e; omega
      · have := fV_lt (i := j) (j := i) (by omega); omega
  · exact fV_lt
theorem fV_le_iff {i j : Int} : fV i ≤ fV j ↔ i ≤ j := by
  have := fV_lt_iff (i := j) (j := i); omega
/-- No NaN. -/
def isN (b : Nat) : Prop := -9218868437227405312 ≤ fI b ∧ fI b ≤ 9218868437227405312
instance (b : Nat) : Decidable (isN b) := by unfold isN; infer_instance
/-- A finite number. -/
def isF (b : Nat) : Prop := -9218868437227405312 < fI b ∧ fI b < 9218868437227405312
instance (b : Nat) : Decidable (isF b) := by unfold isF; infer_instance
theorem isF.n {b : Nat} (h : isF b) : isN b := by unfold isF at h; unfold isN; omega
def negB (b : Nat) : Bool := decide (9223372036854775808 ≤ b)
def rungB (b : Nat) : Nat := if b < 9223372036854775808 then b else b - 9223372036854775808
/-- What a word is read as. -/
theorem read_eq {b : Nat} (hb : b < 18446744073709551616) : Ieee.double.read b =
    if rungB b < 4503599627370496 then .number (negB b) (rungB b) (-1074)
    else if rungB b < 9218868437227405312 then .number (negB b) (4503599627370496 + rungB b % 4503599627370496) (-1074 + (rungB b / 4503599627370496 - 1 : Nat))
    else if rungB b = 9218868437227405312 then .infinity (negB b) else .nan (negB b) (rungB b - 9218868437227405312) := by
  have e1 : Ieee.double.signWeight = 9223372036854775808 := by decide
  have e2 : Ieee.double.binade = 4503599627370496 := by decide
  have e3 : Ieee.double.infRung = 9218868437227405312 := by decide
  have e4 : Ieee.double.leastPlace = -1074 := by decide
  unfold Ieee.Format.read
  simp only [e1, e2, e3, e4]
  have n1 : (b / 9223372036854775808 % 2 == 1) = negB b := by
    unfold negB
    by_cases h : b < 9223372036854775808
    · have : b / 9223372036854775808 = 0 := by omega
      rw [this]; simp; omega
    · have : b / 9223372036854775808 = 1 := by omega
      rw [this]; simp; omega
  have n2 : b % 9223372036854775808 = rungB b := by unfold rungB; split <;> omega
  rw [n1, n2]
theorem fI_eq (b : Nat) : fI b = if negB b = true then -(rungB b : Int) else (rungB b : Int) := by
  unfold fI negB rungB
  by_cases h : b < 9223372036854775808
  · rw [if_pos h, if_pos h, if_neg (by simp; omega)]
  · rw [if_neg h, if_neg h, if_pos (by simp; omega)]
theorem rung_abs (b : Nat) : (fI b).natAbs = rungB b := by rw [fI_eq]; split <;> omega
theorem cmp_congr {a b c d : Int} (h1 : a < b ↔ c < d) (h2 : a = b ↔ c = d) : compare a b = compare c d := by
  show compareOfLessAndEq a b = compareOfLessAndEq c d
  unfold compareOfLessAndEq
  by_cases e1 : a < b
  · rw [if_pos e1, if_pos (h1.1 e1)]
  · rw [if_neg e1, if_neg (fun e => e1 (h1.2 e))]
    by_cases e2 : a = b
    · rw [if_pos e2, if_pos (h2.1 e2)]
    · rw [if_neg e2, if_neg (fun e => e2 (h2.2 e))]
theorem signed_scale (s : Bool) (m p q : Nat) : Ieee.signed s m (p + q) = Ieee.signed s m p * (2 ^ q : Nat) := by
  unfold Ieee.signed
  simp only [Nat.shiftLeft_eq, Nat.pow_add]
  split
  · rw [Int.neg_mul, ← Int.natCast_mul, Nat.mul_assoc]
  · rw [← Int.natCast_mul, Nat.mul_assoc]
theorem mul_lt_iff {a b k : Int} (hk : 0 < k) : a * k < b * k ↔ a < b := Int.mul_lt_mul_right hk
theorem mul_eq_iff {a b k : Int} (hk : 0 < k) : a * k = b * k ↔ a = b := ⟨fun h => Int.eq_of_mul_eq_mul_right (by omega) h, fun h => by rw [h]⟩
/-- A finite word is read as a number of its amount. -/
theorem read_num {b : Nat} (hb : b < 18446744073709551616) (h : isF b) : ∃ m : Nat, ∃ i : Int, Ieee.double.read b = .number (negB b) m i ∧ -1074 ≤ i ∧ (i + 1074).toNat < 2048 ∧ fv (rungB b) = m * 2 ^ (i + 1074).toNat := by
  have hr := rung_abs b
  unfold isF at h
  rw [read_eq hb]
  by_cases h1 : rungB b < 4503599627370496
  · rw [if_pos h1]
    exact ⟨_, _, rfl, by omega, by simp, by simp [fv_small h1]⟩
  · rw [if_neg h1, if_pos (by omega)]
    refine ⟨_, _, rfl, by omega, by omega, ?_⟩
    rw [fv, if_neg h1]
    congr 2
    omega
theorem fV_fI (b : Nat) : fV (fI b) = Ieee.signed (negB b) (fv (rungB b)) 0 := by
  rw [fI_eq]
  unfold Ieee.signed fV
  simp only [Nat.shiftLeft_zero]
  by_cases h : negB b = true
  · rw [if_pos h, if_pos h]
    by_cases h0 : rungB b = 0
    · rw [h0]; simp [fv_zero]
    · rw [if_neg (by omega), Int.natAbs_neg, Int.natAbs_natCast]
  · rw [if_neg h, if_neg h, if_pos (by omega), Int.toNat_natCast]
theorem signed_mul (s : Bool) (m p : Nat) : Ieee.signed s (m * 2 ^ p) 0 = Ieee.signed s m p := by
  unfold Ieee.signed
  simp [Nat.shiftLeft_eq]
/-- The order of words that are no NaN is that of their places. -/
theorem order_eq {b c : Nat} (hb : b < 18446744073709551616) (hc : c < 18446744073709551616) (nb : isN b) (nc : isN c) :
    Ieee.double.order b c = some (compare (fI b) (fI c)) := by
  unfold Ieee.Format.order
  have inf : ∀ {b : Nat}, b < 18446744073709551616 → isN b → ¬ isF b → Ieee.double.read b = .infinity (negB b) ∧ rungB b = 9218868437227405312 := by
    intro b hb nb fb
    have hr := rung_abs b
    unfold isN at nb; unfold isF at fb
    rw [read_eq hb, if_neg (by omega), if_neg (by omega), if_pos (by omega)]
    exact ⟨rfl, by omega⟩
  have sg : ∀ b : Nat, fI b = if negB b = true then -(rungB b : Int) else (rungB b : Int) := fI_eq
  by_cases fb : isF b <;> by_cases fc : isF c
  · obtain ⟨m, i, e1, i0, _, v1⟩ := read_num hb fb
    obtain ⟨n, j, e2, j0, _, v2⟩ := read_num hc fc
    rw [e1, e2]
    simp only [Ieee.Datum.order]
    congr 1
    have hk : 0 < ((2 ^ (min i j + 1074).toNat : Nat) : Int) := by have := Nat.two_pow_pos (min i j + 1074).toNat; omega
    have w1 : Ieee.signed (negB b) m (i - min i j).toNat * ((2 ^ (min i j + 1074).toNat : Nat) : Int) = fV (fI b) := by
      rw [← signed_scale, fV_fI, v1, signed_mul]; congr 1; omega
    have w2 : Ieee.signed (negB c) n (j - min i j).toNat * ((2 ^ (min i j + 1074).toNat : Nat) : Int) = fV (fI c) := by
      rw [← signed_scale, fV_fI, v2, signed_mul]; congr 1; omega
    refine cmp_congr ?_ ?_
    · rw [← mul_lt_iff hk, w1, w2, fV_lt_iff]
    · rw [← mul_eq_iff hk, w1, w2]
      constructor
      · intro h
        have h1 := fV_lt_iff (i := fI b) (j := fI c)
        have h2 := fV_lt_iff (i := fI c) (j := fI b)
        omega
      · intro h; rw [h]
  · obtain ⟨m, i, e1, _⟩ := read_num hb fb
    obtain ⟨e2, r2⟩ := inf hc nc fc
    rw [e1, e2]
    simp only [Ieee.Datum.order]
    have := sg c
    unfold isF at fb
    cases hn : negB c <;> rw [hn, r2] at this <;> simp at this <;> simp only [Bool.false_eq_true, if_false, if_true] <;> congr 1 <;> show _ = compareOfLessAndEq _ _ <;> unfold compareOfLessAndEq
    · rw [if_pos (by omega)]
    · rw [if_neg (by omega), if_neg (by omega)]
  · obtain ⟨n, j, e2, _⟩ := read_num hc fc
    obtain ⟨e1, r1⟩ := inf hb nb fb
    rw [e1, e2]
    simp only [Ieee.Datum.order]
    have := sg b
    unfold isF at fc
    cases hn : negB b <;> rw [hn, r1] at this <;> simp at this <;> simp only [Bool.false_eq_true, if_false, if_true] <;> congr 1 <;> show _ = compareOfLessAndEq _ _ <;> unfold compareOfLessAndEq
    · rw [if_neg (by omega), if_neg (by omega)]
    · rw [if_pos (by omega)]
  · obtain ⟨e1, r1⟩ := inf hb nb fb
    obtain ⟨e2, r2⟩ := inf hc nc fc
    rw [e1, e2]
    simp only [Ieee.Datum.order]
    have h1 := sg b
    have h2 := sg c
    rw [r1] at h1; rw [r2] at h2
    rw [h1, h2]
    cases negB b <;> cases negB c <;> rfl
/-- A NaN has no order. -/
theorem order_nan {b c : Nat} (hb : b < 18446744073709551616) (hc : c < 18446744073709551616) (h : ¬ (isN b ∧ isN c)) : Ieee.double.order b c = none := by
  have nan : ∀ {b : Nat}, b < 18446744073709551616 → ¬ isN b → ∃ f, Ieee.double.read b = .nan (negB b) f := by
    intro b hb nb
    have hr := rung_abs b
    unfold isN at nb
    rw [read_eq hb, if_neg (by omega), if_neg (by omega), if_neg (by omega)]
    exact ⟨_, rfl⟩
  unfold Ieee.Format.order
  by_cases nb : isN b
  · obtain ⟨f, e⟩ := nan hc (fun h' => h ⟨nb, h'⟩)
    rw [e]
    cases Ieee.double.read b <;> rfl
  · obtain ⟨f, e⟩ := nan hb nb
    rw [e]; rfl
theorem order_some {b c : Nat} (hb : b < 18446744073709551616) (hc : c < 18446744073709551616) : Ieee.double.order b c = if isN b ∧ isN c then some (compare (fI b) (fI c)) else none := by
  by_cases h : isN b ∧ isN c
  · rw [if_pos h, order_eq hb hc h.1 h.2]
  · rw [if_neg h, order_nan hb hc h]
/-- The comparisons as tests of places. -/
theorem order_lt {b c : Nat} (hb : b < 18446744073709551616) (hc : c < 18446744073709551616) : (Ieee.double.order b c == some .lt) = decide (isN b ∧ isN c ∧ fI b < fI c) := by
  rw [order_some hb hc]
  by_cases h : isN b ∧ isN c
  · rw [if_pos h]
    by_cases e : fI b < fI c
    · rw [decide_eq_true ⟨h.1, h.2, e⟩]; show (some (compareOfLessAndEq _ _) == _) = _; rw [compareOfLessAndEq, if_pos e]; rfl
    · rw [decide_eq_false (fun k => e k.2.2)]; show (some (compareOfLessAndEq _ _) == _) = _; rw [compareOfLessAndEq, if_neg e]; split <;> rfl
  · rw [if_neg h, decide_eq_false (fun k => h ⟨k.1, k.2.1⟩)]; rfl
theorem order_gt {b c : Nat} (hb : b < 18446744073709551616) (hc : c < 18446744073709551616) : (Ieee.double.order b c == some .gt) = decide (isN b ∧ isN c ∧ fI c < fI b) := by
  rw [order_some hb hc]
  by_cases h : isN b ∧ isN c
  · rw [if_pos h]
    by_cases e : fI b < fI c
    · rw [decide_eq_false (fun k => by omega)]; show (some (compareOfLessAndEq _ _) == _) = _; rw [compareOfLessAndEq, if_pos e]; rfl
    · by_cases e' : fI b = fI c
      · rw [decide_eq_false (fun k => by omega)]; show (some (compareOfLessAndEq _ _) == _) = _; rw [compareOfLessAndEq, if_neg e, if_pos e']; rfl
      · rw [decide_eq_true ⟨h.1, h.2, by omega⟩]; show (some (compareOfLessAndEq _ _) == _) = _; rw [compareOfLessAndEq, if_neg e, if_neg e']; rfl
  · rw [if_neg h, decide_eq_false (fun k => h ⟨k.1, k.2.1⟩)]; rfl
theorem order_eqv {b c : Nat} (hb : b < 18446744073709551616) (hc : c < 18446744073709551616) : (Ieee.double.order b c == some .eq) = decide (isN b ∧ isN c ∧ fI b = fI c) := by
  rw [order_some hb hc]
  by_cases h : isN b ∧ isN c
  · rw [if_pos h]
    by_cases e : fI b < fI c
    · rw [decide_eq_false (fun k => by omega)]; show (some (compareOfLessAndEq _ _) == _) = _; rw [compareOfLessAndEq, if_pos e]; rfl
    · by_cases e' : fI b = fI c
      · rw [decide_eq_true ⟨h.1, h.2, e'⟩]; show (some (compareOfLessAndEq _ _) == _) = _; rw [compareOfLessAndEq, if_neg e, if_pos e']; rfl
      · rw [decide_eq_false (fun k => e' k.2.2)]; show (some (compareOfLessAndEq _ _) == _) = _; rw [compareOfLessAndEq, if_neg e, if_neg e']; rfl
  · rw [if_neg h, decide_eq_false (fun k => h ⟨k.1, k.2.1⟩)]; rfl
/-! ### What is exact is written as such -/
theorem cut_exact {n k : Nat} (hn : n ≠ 0) (neg : Bool) : Ieee.Toward.even.cut neg (n * 2 ^ k) k = n := by
  unfold Ieee.Toward.cut
  have hl : k ≤ (n * 2 ^ k).log2 := by
    rw [Nat.le_log2 (by have := Nat.two_pow_pos k; exact Nat.mul_ne_zero hn (by omega))]
    exact Nat.le_mul_of_pos_left _ (by omega)
  have hm : min k ((n * 2 ^ k).log2 + 2) = k := by omega
  simp only [hm, Nat.one_shiftLeft]
  have hp := Nat.two_pow_pos k
  have e1 : n * 2 ^ k % 2 ^ k = 0 := Nat.mul_mod_left _ _
  have e2 : n * 2 ^ k / 2 ^ k = n := Nat.mul_div_cancel _ hp
  rw [e1, e2]
  have : (decide (2 ^ k < 2 * 0) || (2 ^ k == 2 * 0 && n % 2 == 1)) = false := by
    simp
  rw [this, Bool.toNat_false, Nat.add_zero]
/-- A number that is a rung's amount is written as that rung. -/
theorem nearest_exact {neg : Bool} {mag : Nat} {place : Int} {r a b : Nat} (hr : r < 9218868437227405312) (h0 : mag ≠ 0) (hp : place + 1074 = (a : Int) - b) (h : mag * 2 ^ a = fv r * 2 ^ b) :
    Ieee.double.nearest neg mag place = (if neg = true then 9223372036854775808 else 0) + r := by
  have e2 : Ieee.double.binade = 4503599627370496 := by decide
  have e3 : Ieee.double.infRung = 9218868437227405312 := by decide
  have e4 : Ieee.double.leastPlace = -1074 := by decide
  have e5 : Ieee.double.fractionBits = 52 := by decide
  have e1 : Ieee.double.signWeight = 9223372036854775808 := by decide
  obtain ⟨s, q, hs1, hs2, hs3, hs4⟩ := rung_split r
  have hf : fv r = q * 2 ^ s := by rw [hs1]; exact fv_mk (by omega) hs3
  rw [hf, Nat.mul_assoc, ← Nat.pow_add] at h
  have hq : q ≠ 0 := by intro e; rw [e, Nat.zero_mul] at h; have := Nat.two_pow_pos a; rcases Nat.mul_eq_zero.1 h with h | h <;> omega
  -- the logarithms
  have hlog : mag.log2 + a = q.log2 + (s + b) := by
    have h1 : ∀ x k : Nat, x ≠ 0 → (x * 2 ^ k).log2 = x.log2 + k := by
      intro x k hx
      have hxk : x * 2 ^ k ≠ 0 := Nat.mul_ne_zero hx (by have := Nat.two_pow_pos k; omega)
      have a1 : x.log2 + k ≤ (x * 2 ^ k).log2 := by
        rw [Nat.le_log2 hxk, Nat.pow_add]
        exact Nat.mul_le_mul_right _ (Nat.log2_self_le hx)
      have a2 : (x * 2 ^ k).log2 < x.log2 + k + 1 := by
        rw [Nat.log2_lt hxk, show x.log2 + k + 1 = x.log2 + 1 + k by omega, Nat.pow_add]
        exact Nat.mul_lt_mul_of_pos_right Nat.lt_log2_self (Nat.two_pow_pos k)
      omega
    rw [← h1 mag a h0, ← h1 q (s + b) hq, h]
  have hlq : q.log2 ≤ 52 := by
    have : q.log2 < 53 := (Nat.log2_lt hq).2 (by omega)
    omega
  have hlast : max (place + mag.log2 - 52) (-1074) = (s : Int) - 1074 := by
    rcases hs3 with h3 | h3
    · have : 52 ≤ q.log2 := (Nat.le_log2 hq).2 (by omega)
      omega
    · omega
  unfold Ieee.Format.nearest
  rw [if_neg h0]
  simp only [e2, e3, e4, e5]
  rw [show (((52 : Nat) : Int)) = 52 from rfl, hlast]
  have hk : Ieee.Toward.even.cut neg (mag <<< (place - ((s : Int) - 1074)).toNat) (((s : Int) - 1074) - place).toNat = q := by
    by_cases hc : (a : Int) - b ≤ s
    · -- drop = s + b - a
      have d1 : (place - ((s : Int) - 1074)).toNat = 0 := by omega
      have d2 : (((s : Int) - 1074) - place).toNat = s + b - a := by omega
      rw [d1, d2, Nat.shiftLeft_zero]
      have : mag = q * 2 ^ (s + b - a) := by
        have h2 : s + b = (s + b - a) + a := by omega
        rw [h2, Nat.pow_add, ← Nat.mul_assoc] at h
        exact Nat.eq_of_mul_eq_mul_right (Nat.two_pow_pos a) h
      rw [this]
      exact cut_exact hq neg
    · have d1 : (place - ((s : Int) - 1074)).toNat = a - (s + b) := by omega
      have d2 : (((s : Int) - 1074) - place).toNat = 0 := by omega
      rw [d1, d2, Nat.shiftLeft_eq]
      have : mag * 2 ^ (a - (s + b)) = q := by
        have h2 : a = (a - (s + b)) + (s + b) := by omega
        rw [h2, Nat.pow_add, ← Nat.mul_assoc] at h
        exact Nat.eq_of_mul_eq_mul_right (Nat.two_pow_pos _) h
      rw [this]
      have := cut_exact (n := q) (k := 0) hq neg
      simpa using this
  rw [hk]
  have hmin : min (((s : Int) - 1074 - -1074).toNat * 4503599627370496 + q) 9218868437227405312 = r := by
    have : ((s : Int) - 1074 - -1074).toNat = s := by omega
    rw [this, ← hs1]; exact Nat.min_eq_left (Nat.le_of_lt hr)
  rw [hmin]
  unfold Ieee.Format.word
  rw [e1]
  cases neg with
  | true => rw [if_pos rfl, if_pos rfl]
  | false => rw [if_neg (by decide), if_neg (by decide), Nat.zero_add]
end Go.Sim
