/- What is proved: the reference's order of numbers, its search for the place of an exact number, and its rounding, are those of amounts. -/
import Derived.Test.YtlglkgineclggaaDoorZRTFltZ
namespace Go.Sim.YtlglkgineclggaaDoor
open Go.RowKit Go.Proofs Go.Proofs.Tryd
set_option exponentiation.threshold 5000
/-- An amount with its exponent, in units of 2^-4000. -/
def amtZ (m : Nat) (e : Int) : Nat := m * 2 ^ (e + 4000).toNat
/-- A number of the reference, in these units. -/
def valZ (s : Bool) (m : Nat) (e : Int) : Int := valS s (amtZ m e)
theorem amtZ_level {m n : Nat} {e f : Int} (he : -4000 ≤ e) (hf : -4000 ≤ f) : amtZ m e < amtZ n f ↔ m * 2 ^ (e - f).toNat < n * 2 ^ (f - e).toNat := by
  unfold amtZ
  have hp := Nat.two_pow_pos (min e f + 4000).toNat
  have e1 : m * 2 ^ (e + 4000).toNat = m * 2 ^ (e - f).toNat * 2 ^ (min e f + 4000).toNat := by rw [Nat.mul_assoc, ← Nat.pow_add]; congr 2; omega
  have e2 : n * 2 ^ (f + 4000).toNat = n * 2 ^ (f - e).toNat * 2 ^ (min e f + 4000).toNat := by rw [Nat.mul_assoc, ← Nat.pow_add]; congr 2; omega
  rw [e1, e2]
  exact ⟨fun h => Nat.lt_of_mul_lt_mul_right h, fun h => Nat.mul_lt_mul_of_pos_right h hp⟩
theorem amtZ_zero {m : Nat} {e : Int} : amtZ m e = 0 ↔ m = 0 := by
  unfold amtZ
  have hp := Nat.two_pow_pos (e + 4000).toNat
  constructor
  · intro h
    rcases Nat.mul_eq_zero.1 h with h | h
    · exact h
    · omega
  · intro h; rw [h, Nat.zero_mul]
theorem sgS_amt (s : Bool) (m : Nat) (e : Int) : sgS s (amtZ m e) = sgS s m := by
  unfold sgS
  by_cases h : m = 0
  · rw [if_pos h, if_pos (amtZ_zero.2 h)]
  · rw [if_neg h, if_neg (fun k => h (amtZ_zero.1 k))]
theorem cmpS_amt {m n : Nat} {e f : Int} (he : -4000 ≤ e) (hf : -4000 ≤ f) : cmpS (m * 2 ^ (e - f).toNat) (n * 2 ^ (f - e).toNat) = cmpS (amtZ m e) (amtZ n f) := by
  have h1 := @amtZ_level m n e f he hf
  have h2 := @amtZ_level n m f e hf he
  unfold cmpS
  simp only [h1, h2]
theorem bits_lt {m n : Nat} {e f : Int} (hn : n ≠ 0) (he : -4000 ≤ e) (_hf : -4000 ≤ f) (h : (blen m : Int) + e < (blen n : Int) + f) : amtZ m e < amtZ n f := by
  have h1 := blen_lt m
  have h2 := blen_ge hn
  have h3 : 1 ≤ blen n := by rw [blen_pos hn]; omega
  unfold amtZ
  have p1 := Nat.two_pow_pos (e + 4000).toNat
  have p2 := Nat.two_pow_pos (f + 4000).toNat
  have a1 : m * 2 ^ (e + 4000).toNat < 2 ^ (blen m + (e + 4000).toNat) := by rw [Nat.pow_add]; exact Nat.mul_lt_mul_of_pos_right h1 p1
  have a2 : 2 ^ (blen n - 1 + (f + 4000).toNat) ≤ n * 2 ^ (f + 4000).toNat := by rw [Nat.pow_add]; exact Nat.mul_le_mul_right _ h2
  by_cases hf : -4000 ≤ f
  · exact Nat.lt_of_lt_of_le a1 (Nat.le_trans (Nat.pow_le_pow_right (by decide) (by omega)) a2)
  · omega
theorem pow_dig_len {m k : Nat} (hm : (dig m).length ≤ 10000) (hk : k ≤ 400000) : (dig (m * 2 ^ k)).length ≤ 1000000 := by
  have h1 := dig_len_blen (m * 2 ^ k)
  have h2 := blen_mul_pow m k
  have h3 := blen_dig_len hm
  omega
theorem order_ev {s t : Bool} {m n : Nat} {e f : Int} (hs : m = 0 → s = false) (ht : n = 0 → t = false) (hm : (dig m).length ≤ 10000) (hn : (dig n).length ≤ 10000) (he : -4000 ≤ e ∧ e ≤ 4000) (hf : -4000 ≤ f ∧ f ≤ 4000) :
    Ev_ref01_Order (numZ s m e) (numZ t n f) (sgnS (valZ s m e) (valZ t n f)) := by
  refine walk_ref01_Order ?_
  unfold W_ref01_Order
  have hs' : amtZ m e = 0 → s = false := fun h => hs (amtZ_zero.1 h)
  have ht' : amtZ n f = 0 → t = false := fun h => ht (amtZ_zero.1 h)
  refine Call.mk (sign_ev s m e) (Call.mk (sign_ev t n f) ?_)
  by_cases hd : sgS s m = sgS t n
  · refine Br.f (by simp [hd]) (Call.mk (sign_ev s m e) (Br.e (fun h0 => ?_) (fun h0 => ?_)))
    · exact (ord_zero (by rw [sgS_amt, sgS_amt]; exact hd) (by rw [sgS_amt]; exact h0)).symm
    · have hm0 : m ≠ 0 := fun h => h0 (by unfold sgS; rw [if_pos h])
      have hn0 : n ≠ 0 := fun h => h0 (by rw [hd]; unfold sgS; rw [if_pos h])
      have bm := blen_dig_len hm
      have bn := blen_dig_len hn
      have hst := ord_same (s := s) (t := t) (m := amtZ m e) (n := amtZ n f) (by rw [sgS_amt, sgS_amt]; exact hd) (by rw [sgS_amt]; exact h0)
      have hbd := cmpS_bd (amtZ m e) (amtZ n f)
      refine Call.mk (bits_ev m (by omega)) (Let.as ((blen m : Int) + e) (by show IntKind.i64.wrap ((blen m : Int) + e) = _; rw [wi (by omega) (by omega)]) (Call.mk (bits_ev n (by omega)) (Let.as ((blen n : Int) + f) (by show IntKind.i64.wrap ((blen n : Int) + f) = _; rw [wi (by omega) (by omega)]) ⟨fun x => x = cmpS (amtZ m e) (amtZ n f), ?_, fun x hx => ?_⟩)))
      · refine Br.d (fun h => ?_) (fun h => Br.d (fun h2 => ?_) (fun h2 => Call.mk (level_ev s t m n e f (by omega) (by omega) ⟨by omega, by omega⟩ ⟨by omega, by omega⟩) (Call.mk (cmp_ev _ _ (pow_dig_len hm (by omega))) ?_)))
        · have := bits_lt (e := e) (f := f) hn0 he.1 hf.1 h
          unfold cmpS; rw [if_pos this]
        · have := bits_lt (e := f) (f := e) hm0 hf.1 he.1 h2
          unfold cmpS; rw [if_neg (by omega), if_pos this]
        · exact cmpS_amt he.1 hf.1
      · subst hx
        have hst' : sgnS (valZ s m e) (valZ t n f) = _ := hst
        rw [hst']
        cases s with
        | true => exact Br.t rfl (Let.as (-(cmpS (amtZ m e) (amtZ n f))) (by rw [wi (by omega) (by omega)]; omega) rfl)
        | false => exact Br.f rfl rfl
  · have := ord_diff (s := s) (t := t) (m := amtZ m e) (n := amtZ n f) hs' ht' (by rw [sgS_amt, sgS_amt]; exact hd)
    rw [sgS_amt, sgS_amt] at this
    have this' : sgnS (valZ s m e) (valZ t n f) = _ := this
    rw [this']
    refine Br.t (by simp [hd]) (Call.mk (sign_ev s m e) (Call.mk (sign_ev t n f) (Br.d (fun h => ?_) (fun h => ?_))))
    · rw [if_pos h]
    · rw [if_neg h]
/-! ### Floats and whole numbers -/
theorem zero_numZ : Gref01Num.zero = numZ false 0 0 := by
  unfold numZ; rw [show dg 0 = [] from by unfold dg; rw [dig_zero]; rfl]
/-- The unit of a float's place. -/
def k26 : Nat := 2 ^ 2926
/-- A finite float's number. -/
structure FlZ (b : Nat) (s : Bool) (m : Nat) (e : Int) : Prop where
  eq : fltZ b = numZ s m e
  z : m = 0 → s = false
  l : m < 9007199254740992
  be : -1074 ≤ e ∧ e ≤ 1000
  v : valZ s m e = fV (fI b) * (k26 : Int)
  w : fV (fI b) = valS s m * ((2 ^ (e + 1074).toNat : Nat) : Int)
theorem valS_mul (s : Bool) (m k : Nat) : valS s (m * k) = valS s m * (k : Int) := by
  unfold valS; split <;> simp [Int.neg_mul]
theorem pow_k26 {s : Nat} : ((s : Int) - 1074 + 4000).toNat = s + 2926 := by omega
theorem flZ (b : Nat) (hb : b < 18446744073709551616) (hf : isF b) : ∃ s m e, FlZ b s m e := by
  by_cases h0 : rungB b = 0
  · refine ⟨false, 0, 0, ?_, fun _ => rfl, by decide, by decide, ?_, ?_⟩
    · unfold fltZ; rw [if_pos h0]
    · rw [fV_fI, h0, fv_zero]; unfold Ieee.signed valZ valS amtZ; simp
    · rw [fV_fI, h0, fv_zero]; unfold Ieee.signed valS; simp
  · have hv : fV (fI b) = valS (negB b) (fv (rungB b)) := by rw [fV_fI]; unfold Ieee.signed valS; simp
    refine ⟨negB b, qP b, (sP b : Int) - 1074, ?_, ?_, qP_lt b, ?_, ?_, ?_⟩
    · unfold fltZ; rw [if_neg h0]
    · have := qP_ge b; unfold qP sP at *; intro h; omega
    · have := isF_rung.1 hf; unfold sP; omega
    · rw [hv, fv_qs]
      unfold valZ amtZ
      rw [pow_k26, ← valS_mul, Nat.mul_assoc, k26, ← Nat.pow_add]
    · rw [hv, fv_qs, show ((sP b : Int) - 1074 + 1074).toNat = sP b by omega, valS_mul]
theorem atI_lt {i : Int} (h1 : -9218868437227405312 ≤ i) (h2 : i ≤ 9218868437227405312) : atI i < 18446744073709551616 ∧ fI (atI i) = i := by
  unfold atI fI
  split <;> (split <;> omega)
theorem atI_F {i : Int} (h1 : -9218868437227405312 < i) (h2 : i < 9218868437227405312) : isF (atI i) := by
  have := (atI_lt (i := i) (by omega) (by omega)).2
  unfold isF; rw [this]; exact ⟨h1, h2⟩
theorem dig_lt53 {m : Nat} (h : m < 9007199254740992) : (dig m).length ≤ 2 := dig_length (by omega)
end Go.Sim.YtlglkgineclggaaDoor
