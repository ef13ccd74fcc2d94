/- What is proved: the reference's places of floats, and floats taken apart. -/
import Derived.Test.YtlkpbnhinnhlfaaGreatZLFWF5
import Derived.Test.YtlkpbnhinnhlfaaGreatZLFBigZ
import Derived.Test.YtlkpbnhinnhlfaaGreatZLFFltN
import Derived.Test.YtlkpbnhinnhlfaaGreatZLFFltR

namespace Go.Sim.YtlkpbnhinnhlfaaGreat
open Go.RowKit Go.Proofs Go.Proofs.Tryz
theorem at_ev {i : Int} (h1 : -9223372036854775807 ≤ i) (h2 : i ≤ 9223372036854775807) : Ev_ref01_At i (atI i) := by
  refine walk_ref01_At ?_
  unfold W_ref01_At
  unfold atI
  refine Br.d (fun h => ?_) (fun h => ?_)
  · rw [if_pos h]
    refine Let.as (-i) (by rw [wi (by omega) (by omega)]; omega) (Let.as ((i.natAbs : Nat) : Int) (by rw [wuM]; omega) (Let.as ((i.natAbs + 9223372036854775808 : Nat) : Int) (by rw [wuM]; omega) (Call.mk (float64frombits_ev _) rfl)))
  · rw [if_neg h]
    exact Let.as ((i.toNat : Nat) : Int) (by rw [wuM]; omega) (Call.mk (float64frombits_ev _) rfl)
theorem index_ev {b : Nat} (hb : b < 18446744073709551616) : Ev_ref01_Index b (fI b) := by
  refine walk_ref01_Index ?_
  unfold W_ref01_Index
  unfold fI
  refine Call.mk (float64bits_ev b) (Let.as ((b / 9223372036854775808 : Nat) : Int) (shrC b 63) (Br.e (fun h => ?_) (fun h => ?_)))
  · rw [if_neg (by omega)]
    refine Let.as ((b - 9223372036854775808 : Nat) : Int) (by rw [wuM]; omega) (Let.as _ (wi (by omega) (by omega)) (Let.as (-((b - 9223372036854775808 : Nat) : Int)) (by rw [wi (by omega) (by omega)]; omega) rfl))
  · rw [if_pos (by omega)]
    exact Let.as _ (wi (by omega) (by omega)) rfl
theorem isnum_ev {b : Nat} (hb : b < 18446744073709551616) : Ev_ref01_IsNum b (decide (isN b)) := by
  refine walk_ref01_IsNum ?_
  unfold W_ref01_IsNum
  have e : fI 0 = 0 := rfl
  have z : isN 0 := by decide
  rw [fmt64, order_lt hb (by decide), order_eqv hb (by decide), order_gt hb (by decide), e]
  refine ⟨fun h => ?_, fun h => ?_⟩
  · rw [Bool.or_eq_true, decide_eq_true_iff, decide_eq_true_iff] at h
    symm; rw [decide_eq_true_iff]
    rcases h with h | h <;> exact h.1
  · rw [Bool.or_eq_false_iff, decide_eq_false_iff_not, decide_eq_false_iff_not] at h
    rw [decide_eq_decide]
    constructor
    · exact fun h => h.1
    · intro hn
      refine ⟨hn, z, ?_⟩
      have h1 : ¬ fI b < 0 := fun k => h.1 ⟨hn, z, k⟩
      have h2 : ¬ fI b = 0 := fun k => h.2 ⟨hn, z, k⟩
      omega
theorem refsplit_ev {b : Nat} (hb : b < 18446744073709551616) : Ev_ref01_Split b (if isF b then (partsB b, true) else (GParts.zero, false)) := by
  have hr := rung_lt hb
  have ha := rung_abs b
  have hf := isF_rung (b := b)
  have hsg := fI_eq b
  refine walk_ref01_Split ?_
  unfold W_ref01_Split
  refine Call.mk (index_ev hb) ⟨fun x => x = (rungB b : Int), ?_, fun x hx => ?_⟩
  · exact Br.d (fun h => Let.as (rungB b : Int) (by rw [wi (by omega) (by omega)]; omega) rfl) (fun h => by show _ = _; omega)
  · subst hx
    refine Br.d (fun h => ?_) (fun h => ?_)
    · rw [if_neg (fun k => by have := hf.1 k; omega)]
    · have hF : isF b := hf.2 (by omega)
      rw [if_pos hF]
      unfold partsB
      refine Br.e (fun h0 => ?_) (fun h0 => ?_)
      · rw [if_pos (by omega)]
      · rw [if_neg (by omega)]
        have hn : decide (fI b < 0) = negB b := by
          cases hb' : negB b with
          | true => rw [hb', if_pos rfl] at hsg; rw [decide_eq_true_iff]; omega
          | false => rw [hb', if_neg (by decide)] at hsg; rw [decide_eq_false_iff_not]; omega
        rw [hn]
        refine Let.as _ (wu (by omega) (by omega)) (Let.as ((rungB b % 4503599627370496 : Nat) : Int) rfl (Let.as _ (wu (by omega) (by omega)) (Let.as ((rungB b / 4503599627370496 : Nat) : Int) (by rw [show Int.tdiv (rungB b : Int) 4503599627370496 = ((rungB b / 4503599627370496 : Nat) : Int) from rfl, wu (by omega) (by omega)]) (Let.as _ (wi (by omega) (by omega)) ?_))))
        refine Br.e (fun c => ?_) (fun c => ?_)
        · have e1 : sP b = 0 := by unfold sP; omega
          have e2 : qP b = rungB b % 4503599627370496 := by unfold qP; rw [e1]; omega
          rw [e1, e2]; rfl
        · have e1 : (sP b : Int) = (rungB b / 4503599627370496 : Nat) - 1 := by unfold sP; omega
          have e2 : qP b = rungB b % 4503599627370496 + 4503599627370496 := by unfold qP sP; omega
          refine Let.as ((qP b : Nat) : Int) (by rw [wu (by omega) (by omega), e2]; omega) (Let.as ((sP b : Int) - 1074) (by rw [wi (by omega) (by omega)]; omega) rfl)
theorem finite_ev {b : Nat} (hb : b < 18446744073709551616) : Ev_ref01_finite b (decide (isF b)) := by
  refine walk_ref01_finite ?_
  unfold W_ref01_finite
  refine Call.mk (refsplit_ev hb) (Call.mk (isnum_ev hb) ?_)
  by_cases hf : isF b
  · rw [if_pos hf]; exact Br.t (by simp [hf.n]) (by simp [hf])
  · rw [if_neg hf]
    exact ⟨fun _ => by simp [hf], fun _ => by simp [hf]⟩
/-- A finite float as a number of the reference. -/
def fltZ (b : Nat) : Gref01Num := if rungB b = 0 then numZ false 0 0 else numZ (negB b) (qP b) ((sP b : Int) - 1074)
theorem float_ev {b : Nat} (hb : b < 18446744073709551616) (hf : isF b) : Ev_ref01_Float b (fltZ b) := by
  refine walk_ref01_Float ?_
  unfold W_ref01_Float
  refine Call.mk (refsplit_ev hb) ?_
  rw [if_pos hf]
  unfold fltZ partsB
  have hq := qP_lt b
  by_cases h0 : rungB b = 0
  · rw [if_pos h0, if_pos h0]
    exact Call.mk (of_ev 0 (by decide)) rfl
  · rw [if_neg h0, if_neg h0]
    exact Call.mk (of_ev (qP b) (by omega)) rfl
end Go.Sim.YtlkpbnhinnhlfaaGreat

/- What is proved: the reference's order of numbers, its search for the place of an exact number, and its rounding, are those of amounts. -/
namespace Go.Sim.YtlkpbnhinnhlfaaGreat
open Go.RowKit Go.Proofs Go.Proofs.Tryz
set_option exponentiation.threshold 5000
/-- An amount with its exponent, in units of 2^-4000. -/
def amtZ (m : Nat) (e : Int) : Nat := m * 2 ^ (e + 4000).toNat
/-- A number of the reference, in these units. -/
def valZ (s : Bool) (m : Nat) (e : Int) : Int := valS s (amtZ m e)
theorem amtZ_level {m n : Nat} {e f : Int} (he : -4000 ≤ e) (hf : -4000 ≤ f) : amtZ m e < amtZ n f ↔ m * 2 ^ (e - f).toNat < n * 2 ^ (f - e).toNat := by
  unfold amtZ
  have hp := Nat.two_pow_pos (min e f + 4000).toNat
  have e1 : m * 2 ^ (e + 4000).toNat = m * 2 ^ (e - f).toNat * 2 ^ (min e f + 4000).toNat := by rw [Nat.mul_assoc, ← Nat.pow_add]; congr 2; omega
  have e2 : n * 2 ^ (f + 4000).toNat = n * 2 ^ (f - e).toNat * 2 ^ (min e f + 4000).toNat := by rw [Nat.mul_assoc, ← Nat.pow_add]; congr 2; omega
  rw [e1, e2]
  exact ⟨fun h => Nat.lt_of_mul_lt_mul_right h, fun h => Nat.mul_lt_mul_of_pos_right h hp⟩
theorem amtZ_zero {m : Nat} {e : Int} : amtZ m e = 0 ↔ m = 0 := by
  unfold amtZ
  have hp := Nat.two_pow_pos (e + 4000).toNat
  constructor
  · intro h
    rcases Nat.mul_eq_zero.1 h with h | h
    · exact h
    · omega
  · intro h; rw [h, Nat.zero_mul]
theorem sgS_amt (s : Bool) (m : Nat) (e : Int) : sgS s (amtZ m e) = sgS s m := by
  unfold sgS
  by_cases h : m = 0
  · rw [if_pos h, if_pos (amtZ_zero.2 h)]
  · rw [if_neg h, if_neg (fun k => h (amtZ_zero.1 k))]
theorem cmpS_amt {m n : Nat} {e f : Int} (he : -4000 ≤ e) (hf : -4000 ≤ f) : cmpS (m * 2 ^ (e - f).toNat) (n * 2 ^ (f - e).toNat) = cmpS (amtZ m e) (amtZ n f) := by
  have h1 := @amtZ_level m n e f he hf
  have h2 := @amtZ_level n m f e hf he
  unfold cmpS
  simp only [h1, h2]
theorem bits_lt {m n : Nat} {e f : Int} (hn : n ≠ 0) (he : -4000 ≤ e) (_hf : -4000 ≤ f) (h : (blen m : Int) + e < (blen n : Int) + f) : amtZ m e < amtZ n f := by
  have h1 := blen_lt m
  have h2 := blen_ge hn
  have h3 : 1 ≤ blen n := by rw [blen_pos hn]; omega
  unfold amtZ
  have p1 := Nat.two_pow_pos (e + 4000).toNat
  have p2 := Nat.two_pow_pos (f + 4000).toNat
  have a1 : m * 2 ^ (e + 4000).toNat < 2 ^ (blen m + (e + 4000).toNat) := by rw [Nat.pow_add]; exact Nat.mul_lt_mul_of_pos_right h1 p1
  have a2 : 2 ^ (blen n - 1 + (f + 4000).toNat) ≤ n * 2 ^ (f + 4000).toNat := by rw [Nat.pow_add]; exact Nat.mul_le_mul_right _ h2
  by_cases hf : -4000 ≤ f
  · exact Nat.lt_of_lt_of_le a1 (Nat.le_trans (Nat.pow_le_pow_right (by decide) (by omega)) a2)
  · omega
theorem pow_dig_len {m k : Nat} (hm : (dig m).length ≤ 10000) (hk : k ≤ 400000) : (dig (m * 2 ^ k)).length ≤ 1000000 := by
  have h1 := dig_len_blen (m * 2 ^ k)
  have h2 := blen_mul_pow m k
  have h3 := blen_dig_len hm
  omega
theorem order_ev {s t : Bool} {m n : Nat} {e f : Int} (hs : m = 0 → s = false) (ht : n = 0 → t = false) (hm : (dig m).length ≤ 10000) (hn : (dig n).length ≤ 10000) (he : -4000 ≤ e ∧ e ≤ 4000) (hf : -4000 ≤ f ∧ f ≤ 4000) :
    Ev_ref01_Order (numZ s m e) (numZ t n f) (sgnS (valZ s m e) (valZ t n f)) := by
  refine walk_ref01_Order ?_
  unfold W_ref01_Order
  have hs' : amtZ m e = 0 → s = false := fun h => hs (amtZ_zero.1 h)
  have ht' : amtZ n f = 0 → t = false := fun h => ht (amtZ_zero.1 h)
  refine Call.mk (sign_ev s m e) (Call.mk (sign_ev t n f) ?_)
  by_cases hd : sgS s m = sgS t n
  · refine Br.f (by simp [hd]) (Call.mk (sign_ev s m e) (Br.e (fun h0 => ?_) (fun h0 => ?_)))
    · exact (ord_zero (by rw [sgS_amt, sgS_amt]; exact hd) (by rw [sgS_amt]; exact h0)).symm
    · have hm0 : m ≠ 0 := fun h => h0 (by unfold sgS; rw [if_pos h])
      have hn0 : n ≠ 0 := fun h => h0 (by rw [hd]; unfold sgS; rw [if_pos h])
      have bm := blen_dig_len hm
      have bn := blen_dig_len hn
      have hst := ord_same (s := s) (t := t) (m := amtZ m e) (n := amtZ n f) (by rw [sgS_amt, sgS_amt]; exact hd) (by rw [sgS_amt]; exact h0)
      have hbd := cmpS_bd (amtZ m e) (amtZ n f)
      refine Call.mk (bits_ev m (by omega)) (Let.as ((blen m : Int) + e) (by show IntKind.i64.wrap ((blen m : Int) + e) = _; rw [wi (by omega) (by omega)]) (Call.mk (bits_ev n (by omega)) (Let.as ((blen n : Int) + f) (by show IntKind.i64.wrap ((blen n : Int) + f) = _; rw [wi (by omega) (by omega)]) ⟨fun x => x = cmpS (amtZ m e) (amtZ n f), ?_, fun x hx => ?_⟩)))
      · refine Br.d (fun h => ?_) (fun h => Br.d (fun h2 => ?_) (fun h2 => Call.mk (level_ev s t m n e f (by omega) (by omega) ⟨by omega, by omega⟩ ⟨by omega, by omega⟩) (Call.mk (cmp_ev _ _ (pow_dig_len hm (by omega))) ?_)))
        · have := bits_lt (e := e) (f := f) hn0 he.1 hf.1 h
          unfold cmpS; rw [if_pos this]
        · have := bits_lt (e := f) (f := e) hm0 hf.1 he.1 h2
          unfold cmpS; rw [if_neg (by omega), if_pos this]
        · exact cmpS_amt he.1 hf.1
      · subst hx
        have hst' : sgnS (valZ s m e) (valZ t n f) = _ := hst
        rw [hst']
        cases s with
        | true => exact Br.t rfl (Let.as (-(cmpS (amtZ m e) (amtZ n f))) (by rw [wi (by omega) (by omega)]; omega) rfl)
        | false => exact Br.f rfl rfl
  · have := ord_diff (s := s) (t := t) (m := amtZ m e) (n := amtZ n f) hs' ht' (by rw [sgS_amt, sgS_amt]; exact hd)
    rw [sgS_amt, sgS_amt] at this
    have this' : sgnS (valZ s m e) (valZ t n f) = _ := this
    rw [this']
    refine Br.t (by simp [hd]) (Call.mk (sign_ev s m e) (Call.mk (sign_ev t n f) (Br.d (fun h => ?_) (fun h => ?_))))
    · rw [if_pos h]
    · rw [if_neg h]
/-! ### Floats and whole numbers -/
theorem int_one : Ev_ref01_Int 1 (numZ false 1 0) := by
  refine walk_ref01_Int ?_
  unfold W_ref01_Int
  exact Br.dF (by decide) (Let.as (1 : Int) (wu (by omega) (by omega)) (Call.mk (of_ev 1 (by decide)) rfl))
theorem zero_numZ : Gref01Num.zero = numZ false 0 0 := by
  unfold numZ; rw [show dg 0 = [] from by unfold dg; rw [dig_zero]; rfl]
/-- The unit of a float's place. -/
def k26 : Nat := 2 ^ 2926
/-- A finite float's number. -/
structure FlZ (b : Nat) (s : Bool) (m : Nat) (e : Int) : Prop where
  eq : fltZ b = numZ s m e
  z : m = 0 → s = false
  l : m < 9007199254740992
  be : -1074 ≤ e ∧ e ≤ 1000
  v : valZ s m e = fV (fI b) * (k26 : Int)
  w : fV (fI b) = valS s m * ((2 ^ (e + 1074).toNat : Nat) : Int)
theorem valS_mul (s : Bool) (m k : Nat) : valS s (m * k) = valS s m * (k : Int) := by
  unfold valS; split <;> simp [Int.neg_mul]
theorem pow_k26 {s : Nat} : ((s : Int) - 1074 + 4000).toNat = s + 2926 := by omega
theorem flZ (b : Nat) (hb : b < 18446744073709551616) (hf : isF b) : ∃ s m e, FlZ b s m e := by
  by_cases h0 : rungB b = 0
  · refine ⟨false, 0, 0, ?_, fun _ => rfl, by decide, by decide, ?_, ?_⟩
    · unfold fltZ; rw [if_pos h0]
    · rw [fV_fI, h0, fv_zero]; unfold Ieee.signed valZ valS amtZ; simp
    · rw [fV_fI, h0, fv_zero]; unfold Ieee.signed valS; simp
  · have hv : fV (fI b) = valS (negB b) (fv (rungB b)) := by rw [fV_fI]; unfold Ieee.signed valS; simp
    refine ⟨negB b, qP b, (sP b : Int) - 1074, ?_, ?_, qP_lt b, ?_, ?_, ?_⟩
    · unfold fltZ; rw [if_neg h0]
    · have := qP_ge b; unfold qP sP at *; intro h; omega
    · have := isF_rung.1 hf; unfold sP; omega
    · rw [hv, fv_qs]
      unfold valZ amtZ
      rw [pow_k26, ← valS_mul, Nat.mul_assoc, k26, ← Nat.pow_add]
    · rw [hv, fv_qs, show ((sP b : Int) - 1074 + 1074).toNat = sP b by omega, valS_mul]
theorem atI_lt {i : Int} (h1 : -9218868437227405312 ≤ i) (h2 : i ≤ 9218868437227405312) : atI i < 18446744073709551616 ∧ fI (atI i) = i := by
  unfold atI fI
  split <;> (split <;> omega)
theorem atI_F {i : Int} (h1 : -9218868437227405312 < i) (h2 : i < 9218868437227405312) : isF (atI i) := by
  have := (atI_lt (i := i) (by omega) (by omega)).2
  unfold isF; rw [this]; exact ⟨h1, h2⟩
theorem dig_lt53 {m : Nat} (h : m < 9007199254740992) : (dig m).length ≤ 2 := dig_length (by omega)
end Go.Sim.YtlkpbnhinnhlfaaGreat

/- What is proved: rounding down is monotone, and which places lie below an exact number. -/
namespace Go.Sim
open Go.RowKit
/-- The least rung whose amount is not below P / Q. -/
def ur (P Q : Nat) : Nat := if fv (fr (P / Q)) * Q = P then fr (P / Q) else fr (P / Q) + 1
theorem ur_le {P Q r : Nat} (hQ : 0 < Q) : ur P Q ≤ r ↔ P ≤ fv r * Q := by
  obtain ⟨s1, s2⟩ := fr_quot_spec (A := P) hQ
  unfold ur
  generalize fr (P / Q) = k at *
  have mono : ∀ {a b : Nat}, a ≤ b → fv a * Q ≤ fv b * Q := fun h => Nat.mul_le_mul_right _ (fv_le.2 h)
  split
  · rename_i e
    constructor
    · intro h; rw [← e]; exact mono h
    · intro h
      by_cases hc : k ≤ r
      · exact hc
      · have := Nat.mul_lt_mul_of_pos_right (fv_lt (show r < k by omega)) hQ; omega
  · rename_i e
    constructor
    · intro h; have := mono h; omega
    · intro h
      by_cases hc : k + 1 ≤ r
      · exact hc
      · have := mono (show r ≤ k by omega); omega
theorem le_fr {P Q r : Nat} (hQ : 0 < Q) : r ≤ fr (P / Q) ↔ fv r * Q ≤ P := by
  obtain ⟨s1, s2⟩ := fr_quot_spec (A := P) hQ
  constructor
  · intro h; exact Nat.le_trans (Nat.mul_le_mul_right _ (fv_le.2 h)) s1
  · intro h
    by_cases hc : r ≤ fr (P / Q)
    · exact hc
    · have := Nat.mul_le_mul_right Q (fv_le.2 (show fr (P / Q) + 1 ≤ r by omega)); omega
/-- The place of P / Q, rounded down. -/
def dp (P : Int) (Q : Nat) : Int := if 0 ≤ P then ((min (fr (P.toNat / Q)) 9218868437227405311 : Nat) : Int) else -((min (ur P.natAbs Q) 9218868437227405312 : Nat) : Int)
theorem dp_range (P : Int) (Q : Nat) : -9218868437227405312 ≤ dp P Q ∧ dp P Q ≤ 9218868437227405311 := by
  unfold dp; split <;> omega
theorem le_dp {P : Int} {Q : Nat} {i : Int} (hQ : 0 < Q) (h1 : -9218868437227405311 ≤ i) (h2 : i ≤ 9218868437227405311) : i ≤ dp P Q ↔ fV i * Q ≤ P := by
  unfold dp
  by_cases hP : 0 ≤ P
  · rw [if_pos hP]
    by_cases hi : 0 ≤ i
    · have e := le_fr (P := P.toNat) (Q := Q) (r := i.toNat) hQ
      have ev : fV i * Q = ((fv i.toNat * Q : Nat) : Int) := by unfold fV; rw [if_pos hi, Int.natCast_mul]
      rw [ev]
      generalize fv i.toNat * Q = X at *
      omega
    · have ev : fV i * Q = -((fv i.natAbs * Q : Nat) : Int) := by unfold fV; rw [if_neg hi, Int.natCast_mul, Int.neg_mul]
      rw [ev]
      generalize fv i.natAbs * Q = X
      omega
  · rw [if_neg hP]
    by_cases hi : 0 < i
    · have ev : fV i * Q = ((fv i.toNat * Q : Nat) : Int) := by unfold fV; rw [if_pos (by omega), Int.natCast_mul]
      rw [ev]
      generalize fv i.toNat * Q = X
      have : 1 ≤ ur P.natAbs Q := by
        have := (ur_le (P := P.natAbs) (Q := Q) (r := 0) hQ)
        rw [fv_zero, Nat.zero_mul] at this
        omega
      omega
    · have ev : fV i * Q = -((fv i.natAbs * Q : Nat) : Int) := by
        unfold fV
        by_cases h0 : i = 0
        · subst h0; simp [fv_zero]
        · rw [if_neg (by omega), Int.natCast_mul, Int.neg_mul]
      rw [ev]
      have e := ur_le (P := P.natAbs) (Q := Q) (r := i.natAbs) hQ
      generalize fv i.natAbs * Q = X at *
      omega
theorem dp_mono {P P' : Int} {Q Q' : Nat} (hQ : 0 < Q) (hQ' : 0 < Q') (h : P * Q' ≤ P' * Q) : dp P Q ≤ dp P' Q' := by
  have r1 := dp_range P Q
  have r2 := dp_range P' Q'
  by_cases hi : dp P Q = -9218868437227405312
  · omega
  · rw [le_dp hQ' (by omega) r1.2]
    have h1 := (le_dp (P := P) hQ (by omega) r1.2).1 (Int.le_refl _)
    have h2 : fV (dp P Q) * Q' * Q ≤ P' * Q := by
      rw [Int.mul_right_comm]
      exact Int.le_trans (Int.mul_le_mul_of_nonneg_right h1 (by omega)) h
    exact Int.le_of_mul_le_mul_right h2 (by omega)
theorem dp_zero {Q : Nat} (hQ : 0 < Q) : dp 0 Q = 0 := by
  have h : fr (0 / Q) = 0 := by rw [Nat.zero_div]; exact fr_uniq (by simp [fv_zero]) (by decide)
  unfold dp
  rw [if_pos (by omega), Int.toNat_zero, h]; rfl
/-! ### The words of rounded numbers -/
theorem fI_capF (k : Nat) (d : Int) : fI (capR false k d) = if 9218868437227405312 ≤ k then (if 0 ≤ d then 9218868437227405312 else 9218868437227405311) else (k : Int) := by
  by_cases h : 9218868437227405312 ≤ k
  · rw [capF_hi h, if_pos h]; split <;> rfl
  · rw [capF_lo (by omega), if_neg h]; unfold fI; rw [if_pos (by omega)]
theorem fI_capT (k : Nat) (d : Int) : fI (capR true k d) = -(if 9218868437227405312 ≤ k then (if 0 ≤ d then 9218868437227405312 else 9218868437227405311) else (k : Int)) := by
  by_cases h : 9218868437227405312 ≤ k
  · rw [capT_hi h, if_pos h]; split <;> rfl
  · rw [capT_lo (by omega), if_neg h]
    by_cases h0 : k = 0
    · rw [if_pos h0, h0]; rfl
    · rw [if_neg h0]; unfold fI; rw [if_neg (by omega)]; omega
theorem capR_ok (s : Bool) (k : Nat) (d : Int) : capR s k d < 18446744073709551616 ∧ capR s k d ≠ 9223372036854775808 ∧ rungB (capR s k d) ≤ 9218868437227405312 := by
  cases s
  · by_cases h : 9218868437227405312 ≤ k
    · rw [capF_hi h]; unfold rungB; split <;> (refine ⟨by omega, by omega, ?_⟩; split <;> omega)
    · rw [capF_lo (by omega)]; unfold rungB; refine ⟨by omega, by omega, ?_⟩; split <;> omega
  · by_cases h : 9218868437227405312 ≤ k
    · rw [capT_hi h]; unfold rungB; split <;> (refine ⟨by omega, by omega, ?_⟩; split <;> omega)
    · rw [capT_lo (by omega)]; unfold rungB; split <;> (refine ⟨by omega, by omega, ?_⟩; split <;> omega)
/-- P / Q, rounded. -/
def rd (P : Int) (Q : Nat) (dir : Int) : Nat := rnd (decide (P < 0)) P.natAbs Q dir
theorem rd_ok (P : Int) (Q : Nat) (dir : Int) : rd P Q dir < 18446744073709551616 ∧ rd P Q dir ≠ 9223372036854775808 ∧ isN (rd P Q dir) := by
  have h := capR_ok (decide (P < 0)) (rndR P.natAbs Q (if decide (P < 0) = true then -dir else dir)) (if decide (P < 0) = true then -dir else dir)
  refine ⟨h.1, h.2.1, ?_⟩
  have h3 := h.2.2
  have e : rd P Q dir = capR (decide (P < 0)) (rndR P.natAbs Q (if decide (P < 0) = true then -dir else dir)) (if decide (P < 0) = true then -dir else dir) := rfl
  rw [← e] at h3
  have := rung_abs (rd P Q dir)
  unfold isN; omega
theorem rndR_dn {A B : Nat} : rndR A B (-1) = fr (A / B) := by
  unfold rndR
  rw [if_neg]; unfold upR; omega
theorem rndR_up {A B : Nat} : rndR A B 1 = ur A B := by
  unfold rndR ur
  by_cases h : fv (fr (A / B)) * B = A
  · rw [if_pos h, if_neg]; unfold upR; omega
  · rw [if_neg h, if_pos]; unfold upR; omega
theorem fI_rd_dn {P : Int} {Q : Nat} : fI (rd P Q (-1)) = dp P Q := by
  unfold rd dp
  by_cases hP : 0 ≤ P
  · rw [if_pos hP, decide_eq_false (by omega)]
    show fI (capR false (rndR P.natAbs Q (-1)) (-1)) = _
    rw [rndR_dn, fI_capF, show P.natAbs = P.toNat by omega, if_neg (show ¬ (0 : Int) ≤ -1 by decide)]
    split <;> omega
  · rw [if_neg hP, decide_eq_true (by omega)]
    show fI (capR true (rndR P.natAbs Q (- -1)) (- -1)) = _
    rw [show (- -1 : Int) = 1 by decide, rndR_up, fI_capT, if_pos (show (0 : Int) ≤ 1 by decide)]
    split <;> omega
theorem fI_rd_up {P : Int} {Q : Nat} (hQ : 0 < Q) : fI (rd P Q 1) = -dp (-P) Q := by
  by_cases h0 : P = 0
  · subst h0
    rw [Int.neg_zero, dp_zero hQ]
    unfold rd
    show fI (capR false (rndR 0 Q 1) 1) = _
    have : ur 0 Q = 0 := by have := (ur_le (P := 0) (Q := Q) (r := 0) hQ).2 (by omega); omega
    rw [rndR_up, this]; rfl
  · unfold rd dp
    by_cases hP : 0 ≤ P
    · rw [if_neg (by omega), decide_eq_false (by omega)]
      show fI (capR false (rndR P.natAbs Q 1) 1) = _
      rw [rndR_up, fI_capF, Int.natAbs_neg, if_pos (show (0 : Int) ≤ 1 by decide)]
      split <;> omega
    · rw [if_pos (by omega), decide_eq_true (by omega)]
      show fI (capR true (rndR P.natAbs Q (-1)) (-1)) = _
      rw [rndR_dn, fI_capT, show P.natAbs = (-P).toNat by omega, if_neg (show ¬ (0 : Int) ≤ -1 by decide)]
      split <;> omega
/-- A word is told by its place, but for -0. -/
theorem fI_inj {a b : Nat} (ha : a ≠ 9223372036854775808) (hb : b ≠ 9223372036854775808) (h : fI a = fI b) : a = b := by
  unfold fI at h
  split at h <;> split at h <;> omega
end Go.Sim
