/- What is proved: ulp.Add, ulp.Mul and ulp.Round of finite floats yield the words of the exact results, rounded. -/
import Derived.Test.YtlkpbnhinnhlfaaZSHFltA
import Derived.Test.YtlkpbnhinnhlfaaZSHWF3
import Derived.Test.YtlkpbnhinnhlfaaZSHWNr
import Derived.Test.YtlkpbnhinnhlfaaZSHBigZ
import Derived.Test.YtlkpbnhinnhlfaaZSHFltR

namespace Go.Sim.Ytlkpbnhinnhlfaa
open Go.RowKit Go.Proofs Go.Proofs.Try
set_option exponentiation.threshold 5000
theorem sgn_fV (b : Nat) : sgn (negB b) (qP b * 2 ^ sP b) = fV (fI b) := by
  rw [fV_fI, fv_qs]
  unfold sgn Ieee.signed
  simp only [Nat.shiftLeft_zero]
theorem parts_ok {b : Nat} (hf : isF b) (h0 : rungB b ≠ 0) : POk (partsB b) (qP b) (sP b) ∧ (partsB b).Neg = negB b := by
  have hr := isF_rung.1 hf
  unfold partsB
  rw [if_neg h0]
  refine ⟨⟨rfl, ?_, qP_lt b, rfl, by unfold sP; omega, qP_ge b⟩, rfl⟩
  unfold qP sP; omega
/-- What parts stand for. -/
def PV (p : GParts) (T : Int) : Prop := (p = GParts.zero ∧ T = 0) ∨ ∃ M X, POk p M X ∧ T = sgn p.Neg (M * 2 ^ X)
theorem parts_pv {b : Nat} (hf : isF b) : PV (partsB b) (fV (fI b)) := by
  by_cases h0 : rungB b = 0
  · left
    unfold partsB
    rw [if_pos h0, fV_fI, h0, fv_zero]
    refine ⟨rfl, ?_⟩
    unfold Ieee.signed; simp
  · obtain ⟨h1, h2⟩ := parts_ok hf h0
    exact .inr ⟨_, _, h1, by rw [h2, sgn_fV]⟩
theorem amount_one {p : GParts} {M X : Nat} (h : POk p M X) : Amount { Gulpvalue.zero with neg_ := p.Neg, lo_ := p.M, e_ := p.E } 0 M M (M * 2 ^ X) 1 := by
  obtain ⟨hM, hM0, hM1, hE, hX, hMc⟩ := h
  have h2 := Nat.two_pow_pos X
  refine ⟨by omega, rfl, hM, by omega, by omega, ?_, by omega, ⟨2 ^ X, 0, X, by omega, ?_, Nat.le_refl _, by rw [Nat.add_mul]; omega, ?_⟩, fun h => by cases h⟩
  · show -10000 ≤ p.E ∧ p.E ≤ 10000; omega
  · show p.E + 1074 = _; omega
  · exact ⟨fun h => (by cases h), fun h => absurd rfl h⟩
theorem sgn_abs (s : Bool) (n : Nat) : (sgn s n).natAbs = n := by unfold sgn; split <;> omega
theorem sgn_neg {s : Bool} {n : Nat} (h : n ≠ 0) : decide (sgn s n < 0) = s := by
  unfold sgn; cases s
  · simp
  · simp; omega
theorem one_ev {p : GParts} {M X : Nat} (dir : Int) (h : POk p M X) : Ev_ulp_value_round { Gulpvalue.zero with neg_ := p.Neg, lo_ := p.M, e_ := p.E } dir (rnd (decide (sgn p.Neg (M * 2 ^ X) < 0)) (sgn p.Neg (M * 2 ^ X)).natAbs 1 dir) := by
  have h2 := Nat.two_pow_pos X
  rw [sgn_abs, sgn_neg (Nat.mul_ne_zero h.h0 (by omega))]
  exact round_ev (amount_one h)
theorem zero_ev (dir : Int) : Ev_ulp_value_round { Gulpvalue.zero with neg_ := GParts.zero.Neg, lo_ := GParts.zero.M, e_ := GParts.zero.E } dir 0 := by
  have h : Amount { Gulpvalue.zero with neg_ := GParts.zero.Neg, lo_ := GParts.zero.M, e_ := GParts.zero.E } 0 0 0 0 1 :=
    ⟨rfl, rfl, rfl, by decide, by decide, by decide, by decide, ⟨2 ^ 1074, 0, 1074, Nat.mul_comm (2 ^ 1074) (2 ^ 0), by decide, by rw [Nat.zero_mul]; exact Nat.le_refl _, by rw [Nat.zero_add, Nat.one_mul]; exact Nat.two_pow_pos _, ⟨fun h => (by cases h), fun h => absurd (Nat.zero_mul _).symm h⟩⟩, fun h => by cases h⟩
  have := round_ev (dir := dir) h
  rwa [rnd_zero (by decide)] at this
theorem sum2 {p q : GParts} {S T : Int} (dir : Int) (hp : PV p S) (hq : PV q T) (ho : ¬ (p.E < q.E ∨ p.E = q.E ∧ p.M < q.M)) :
    ∃ v, Ev_ulp_sum p q v ∧ Ev_ulp_value_round v dir (rnd (decide (S + T < 0)) (S + T).natAbs 1 dir) := by
  rcases hq with ⟨rfl, rfl⟩ | ⟨K, Y, hq, rfl⟩
  · refine ⟨{ Gulpvalue.zero with neg_ := p.Neg, lo_ := p.M, e_ := p.E }, walk_ulp_sum (by unfold W_ulp_sum; exact Br.eT rfl rfl), ?_⟩
    rcases hp with ⟨rfl, rfl⟩ | ⟨M, X, hp, rfl⟩
    · have := zero_ev dir
      rw [Int.add_zero, Int.natAbs_zero, rnd_zero (by decide)]; exact this
    · rw [Int.add_zero]; exact one_ev dir hp
  · rcases hp with ⟨rfl, rfl⟩ | ⟨M, X, hp, rfl⟩
    · refine ⟨{ Gulpvalue.zero with neg_ := q.Neg, lo_ := q.M, e_ := q.E }, walk_ulp_sum (by unfold W_ulp_sum; exact Br.eF (by rw [hq.hM]; have := hq.h0; omega) (Br.eT rfl rfl)), ?_⟩
      rw [Int.zero_add]; exact one_ev dir hq
    · have h1 := hp.hE
      have h2 := hq.hE
      have h3 := hp.hM
      have h4 := hq.hM
      obtain ⟨v, hi, lo, N, k1, k2, k3⟩ := sum_ev hp hq (by omega)
      refine ⟨v, k1, ?_⟩
      have := round_ev (dir := dir) k2
      by_cases hz : sgn p.Neg (M * 2 ^ X) + sgn q.Neg (K * 2 ^ Y) = 0
      · rw [hz, Int.natAbs_zero, rnd_zero (by decide)] at this ⊢; exact this
      · rwa [k3 hz] at this
/-- The exact sum's word. -/
def addB (a b : Nat) (dir : Int) : Nat := rnd (decide (fV (fI a) + fV (fI b) < 0)) (fV (fI a) + fV (fI b)).natAbs 1 dir
/-- The exact product's word. -/
def mulB (a b : Nat) (dir : Int) : Nat := rnd (decide (fV (fI a) * fV (fI b) < 0)) (fV (fI a) * fV (fI b)).natAbs (2 ^ 1074) dir
theorem add_ev {a b : Nat} (dir : Int) (ha : a < 18446744073709551616) (hb : b < 18446744073709551616) (fa : isF a) (fb : isF b) : Ev_ulp_Add a b dir (addB a b dir) := by
  refine walk_ulp_Add ?_
  unfold W_ulp_Add
  refine Call.mk (both_ev ha hb) (Br.f (by simp [fa, fb]) ?_)
  simp only [if_pos fa, if_pos fb]
  have pa := parts_pv fa
  have pb := parts_pv fb
  generalize partsB a = p at *
  generalize partsB b = q at *
  refine ⟨fun x => x = decide (p.E < q.E ∨ p.E = q.E ∧ p.M < q.M), ?_, fun x hx => ?_⟩
  · refine Br.d (fun h => ?_) (fun h => Br.e (fun h2 => ?_) (fun h2 => ?_))
    · show _ = _; symm; rw [decide_eq_true_iff]; exact .inl h
    · show _ = _; rw [decide_eq_decide]; omega
    · show _ = _; symm; rw [decide_eq_false_iff_not]; omega
  · subst hx
    refine ⟨fun x y => (x = p ∧ y = q ∧ ¬ (p.E < q.E ∨ p.E = q.E ∧ p.M < q.M)) ∨ (x = q ∧ y = p ∧ (p.E < q.E ∨ p.E = q.E ∧ p.M < q.M)), ?_, ?_⟩
    · exact Br.d (fun h => .inr ⟨rfl, rfl, h⟩) (fun h => .inl ⟨rfl, rfl, h⟩)
    · rintro x y (⟨rfl, rfl, h⟩ | ⟨rfl, rfl, h⟩)
      · obtain ⟨v, k1, k2⟩ := sum2 dir pa pb h
        exact Call.mk k1 (Call.mk k2 rfl)
      · obtain ⟨v, k1, k2⟩ := sum2 dir pb pa (by omega)
        refine Call.mk k1 (Call.mk k2 ?_)
        show _ = addB a b dir
        unfold addB
        rw [Int.add_comm]
theorem mul_ev {a b : Nat} (dir : Int) (ha : a < 18446744073709551616) (hb : b < 18446744073709551616) (fa : isF a) (fb : isF b) : Ev_ulp_Mul a b dir (mulB a b dir) := by
  have h2 : 0 < 2 ^ 1074 := Nat.two_pow_pos 1074
  have hz : fV (fI a) = 0 ∨ fV (fI b) = 0 → mulB a b dir = 0 := by
    intro h
    unfold mulB
    rw [show fV (fI a) * fV (fI b) = 0 from by rcases h with h | h <;> rw [h] <;> simp, Int.natAbs_zero, rnd_zero h2]
  have fz : ∀ {x : Nat}, rungB x = 0 → fV (fI x) = 0 := by
    intro x h; rw [fV_fI, h, fv_zero]; unfold Ieee.signed; simp
  refine walk_ulp_Mul ?_
  unfold W_ulp_Mul
  refine Call.mk (both_ev ha hb) ⟨fun x => x = false, Call.mk (isNaN_ev ha) (Br.f (by simp [fa.n]) (Call.mk (isNaN_ev hb) (by simp [fb.n]))), fun x hx => ?_⟩
  subst hx
  refine Br.f rfl ?_
  rw [eq_zero ha, eq_zero hb]
  refine Br.d (fun h => (hz (.inl (fz h))).symm) (fun ha0 => Br.d (fun h => (hz (.inr (fz h))).symm) (fun hb0 => Br.f (by simp [fa, fb]) ?_))
  simp only [if_pos fa, if_pos fb]
  obtain ⟨pa, na⟩ := parts_ok fa ha0
  obtain ⟨pb, nb⟩ := parts_ok fb hb0
  have va := sgn_fV a
  have vb := sgn_fV b
  generalize partsB a = p at *
  generalize partsB b = q at *
  obtain ⟨hM, hM0, hM1, hE, hX, _⟩ := pa
  obtain ⟨hK, hK0, hK1, hF, hY, _⟩ := pb
  generalize qP a = M at *
  generalize sP a = X at *
  generalize qP b = K at *
  generalize sP b = Y at *
  have hMK : M * K < 9007199254740992 * 9007199254740992 := Nat.mul_lt_mul'' hM1 hK1
  rw [hM, hK]
  have p1 := Nat.two_pow_pos X
  have p2 := Nat.two_pow_pos Y
  have hval : fV (fI a) * fV (fI b) = sgn (p.Neg != q.Neg) (M * K * 2 ^ (X + Y)) := by
    rw [← va, ← vb, na, nb]
    have e : ((M * K * 2 ^ (X + Y) : Nat) : Int) = ((M * 2 ^ X : Nat) : Int) * ((K * 2 ^ Y : Nat) : Int) := by
      rw [← Int.natCast_mul, Nat.pow_add, Nat.mul_mul_mul_comm]
    unfold sgn
    rw [e]
    generalize ((M * 2 ^ X : Nat) : Int) = u
    generalize ((K * 2 ^ Y : Nat) : Int) = w
    cases negB a <;> cases negB b <;> simp [Int.neg_mul, Int.mul_neg]
  have hne : M * K * 2 ^ (X + Y) ≠ 0 := Nat.mul_ne_zero (Nat.mul_ne_zero hM0 hK0) (by have := Nat.two_pow_pos (X + Y); omega)
  refine Call.mk (mul64_ev M K (by omega) (by omega)) (Let.as (p.E + q.E) (wi (by omega) (by omega)) (Call.mk (round_ev (hi := M * K / 18446744073709551616) (lo := M * K % 18446744073709551616) (N := M * K) (A := M * K * 2 ^ (X + Y)) (B := 2 ^ 1074) ⟨by omega, rfl, rfl, by omega, by omega, ?_, h2, ⟨2 ^ (X + Y), 1074, X + Y, Nat.mul_comm _ _, ?_, Nat.le_refl _, ?_, ?_⟩, fun h => by cases h⟩) ?_))
  · show -10000 ≤ p.E + q.E ∧ p.E + q.E ≤ 10000; omega
  · show p.E + q.E + 1074 = _; omega
  · rw [Nat.add_mul]; have := Nat.two_pow_pos (X + Y); omega
  · exact ⟨fun h => (by cases h), fun h => absurd rfl h⟩
  · show _ = mulB a b dir
    unfold mulB
    rw [hval, sgn_abs, sgn_neg hne]
end Go.Sim.Ytlkpbnhinnhlfaa
-- seatfit

/- What is proved: the reference's places of floats, and floats taken apart. -/
namespace Go.Sim.Ytlkpbnhinnhlfaa
open Go.RowKit Go.Proofs Go.Proofs.Try
theorem index_ev {b : Nat} (hb : b < 18446744073709551616) : Ev_ref01_Index b (fI b) := by
  refine walk_ref01_Index ?_
  unfold W_ref01_Index
  unfold fI
  refine Call.mk (float64bits_ev b) (Let.as ((b / 9223372036854775808 : Nat) : Int) (shrC b 63) (Br.e (fun h => ?_) (fun h => ?_)))
  · rw [if_neg (by omega)]
    refine Let.as ((b - 9223372036854775808 : Nat) : Int) (by rw [wuM]; omega) (Let.as _ (wi (by omega) (by omega)) (Let.as (-((b - 9223372036854775808 : Nat) : Int)) (by rw [wi (by omega) (by omega)]; omega) rfl))
  · rw [if_pos (by omega)]
    exact Let.as _ (wi (by omega) (by omega)) rfl
theorem refsplit_ev {b : Nat} (hb : b < 18446744073709551616) : Ev_ref01_Split b (if isF b then (partsB b, true) else (GParts.zero, false)) := by
  have hr := rung_lt hb
  have ha := rung_abs b
  have hf := isF_rung (b := b)
  have hsg := fI_eq b
  refine walk_ref01_Split ?_
  unfold W_ref01_Split
  refine Call.mk (index_ev hb) ⟨fun x => x = (rungB b : Int), ?_, fun x hx => ?_⟩
  · exact Br.d (fun h => Let.as (rungB b : Int) (by rw [wi (by omega) (by omega)]; omega) rfl) (fun h => by show _ = _; omega)
  · subst hx
    refine Br.d (fun h => ?_) (fun h => ?_)
    · rw [if_neg (fun k => by have := hf.1 k; omega)]
    · have hF : isF b := hf.2 (by omega)
      rw [if_pos hF]
      unfold partsB
      refine Br.e (fun h0 => ?_) (fun h0 => ?_)
      · rw [if_pos (by omega)]
      · rw [if_neg (by omega)]
        have hn : decide (fI b < 0) = negB b := by
          cases hb' : negB b with
          | true => rw [hb', if_pos rfl] at hsg; rw [decide_eq_true_iff]; omega
          | false => rw [hb', if_neg (by decide)] at hsg; rw [decide_eq_false_iff_not]; omega
        rw [hn]
        refine Let.as _ (wu (by omega) (by omega)) (Let.as ((rungB b % 4503599627370496 : Nat) : Int) rfl (Let.as _ (wu (by omega) (by omega)) (Let.as ((rungB b / 4503599627370496 : Nat) : Int) (by rw [show Int.tdiv (rungB b : Int) 4503599627370496 = ((rungB b / 4503599627370496 : Nat) : Int) from rfl, wu (by omega) (by omega)]) (Let.as _ (wi (by omega) (by omega)) ?_))))
        refine Br.e (fun c => ?_) (fun c => ?_)
        · have e1 : sP b = 0 := by unfold sP; omega
          have e2 : qP b = rungB b % 4503599627370496 := by unfold qP; rw [e1]; omega
          rw [e1, e2]; rfl
        · have e1 : (sP b : Int) = (rungB b / 4503599627370496 : Nat) - 1 := by unfold sP; omega
          have e2 : qP b = rungB b % 4503599627370496 + 4503599627370496 := by unfold qP sP; omega
          refine Let.as ((qP b : Nat) : Int) (by rw [wu (by omega) (by omega), e2]; omega) (Let.as ((sP b : Int) - 1074) (by rw [wi (by omega) (by omega)]; omega) rfl)
/-- A finite float as a number of the reference. -/
def fltZ (b : Nat) : Gref01Num := if rungB b = 0 then numZ false 0 0 else numZ (negB b) (qP b) ((sP b : Int) - 1074)
theorem float_ev {b : Nat} (hb : b < 18446744073709551616) (hf : isF b) : Ev_ref01_Float b (fltZ b) := by
  refine walk_ref01_Float ?_
  unfold W_ref01_Float
  refine Call.mk (refsplit_ev hb) ?_
  rw [if_pos hf]
  unfold fltZ partsB
  have hq := qP_lt b
  by_cases h0 : rungB b = 0
  · rw [if_pos h0, if_pos h0]
    exact Call.mk (of_ev 0 (by decide)) rfl
  · rw [if_neg h0, if_neg h0]
    exact Call.mk (of_ev (qP b) (by omega)) rfl
end Go.Sim.Ytlkpbnhinnhlfaa
-- seatfit

/- What is proved: the reference's order of numbers, its search for the place of an exact number, and its rounding, are those of amounts. -/
namespace Go.Sim.Ytlkpbnhinnhlfaa
open Go.RowKit Go.Proofs Go.Proofs.Try
set_option exponentiation.threshold 5000
/-- An amount with its exponent, in units of 2^-4000. -/
def amtZ (m : Nat) (e : Int) : Nat := m * 2 ^ (e + 4000).toNat
/-- A number of the reference, in these units. -/
def valZ (s : Bool) (m : Nat) (e : Int) : Int := valS s (amtZ m e)
/-! ### Floats and whole numbers -/
theorem int_one : Ev_ref01_Int 1 (numZ false 1 0) := by
  refine walk_ref01_Int ?_
  unfold W_ref01_Int
  exact Br.dF (by decide) (Let.as (1 : Int) (wu (by omega) (by omega)) (Call.mk (of_ev 1 (by decide)) rfl))
/-- The unit of a float's place. -/
def k26 : Nat := 2 ^ 2926
/-- A finite float's number. -/
structure FlZ (b : Nat) (s : Bool) (m : Nat) (e : Int) : Prop where
  eq : fltZ b = numZ s m e
  z : m = 0 → s = false
  l : m < 9007199254740992
  be : -1074 ≤ e ∧ e ≤ 1000
  v : valZ s m e = fV (fI b) * (k26 : Int)
  w : fV (fI b) = valS s m * ((2 ^ (e + 1074).toNat : Nat) : Int)
theorem dig_lt53 {m : Nat} (h : m < 9007199254740992) : (dig m).length ≤ 2 := dig_length (by omega)
end Go.Sim.Ytlkpbnhinnhlfaa
-- seatfit

/- What is proved: rounding down is monotone, and which places lie below an exact number. -/
namespace Go.Sim
open Go.RowKit
/-- The least rung whose amount is not below P / Q. -/
def ur (P Q : Nat) : Nat := if fv (fr (P / Q)) * Q = P then fr (P / Q) else fr (P / Q) + 1
theorem ur_le {P Q r : Nat} (hQ : 0 < Q) : ur P Q ≤ r ↔ P ≤ fv r * Q := by
  obtain ⟨s1, s2⟩ := fr_quot_spec (A := P) hQ
  unfold ur
  generalize fr (P / Q) = k at *
  have mono : ∀ {a b : Nat}, a ≤ b → fv a * Q ≤ fv b * Q := fun h => Nat.mul_le_mul_right _ (fv_le.2 h)
  split
  · rename_i e
    constructor
    · intro h; rw [← e]; exact mono h
    · intro h
      by_cases hc : k ≤ r
      · exact hc
      · have := Nat.mul_lt_mul_of_pos_right (fv_lt (show r < k by omega)) hQ; omega
  · rename_i e
    constructor
    · intro h; have := mono h; omega
    · intro h
      by_cases hc : k + 1 ≤ r
      · exact hc
      · have := mono (show r ≤ k by omega); omega
theorem le_fr {P Q r : Nat} (hQ : 0 < Q) : r ≤ fr (P / Q) ↔ fv r * Q ≤ P := by
  obtain ⟨s1, s2⟩ := fr_quot_spec (A := P) hQ
  constructor
  · intro h; exact Nat.le_trans (Nat.mul_le_mul_right _ (fv_le.2 h)) s1
  · intro h
    by_cases hc : r ≤ fr (P / Q)
    · exact hc
    · have := Nat.mul_le_mul_right Q (fv_le.2 (show fr (P / Q) + 1 ≤ r by omega)); omega
/-- The place of P / Q, rounded down. -/
def dp (P : Int) (Q : Nat) : Int := if 0 ≤ P then ((min (fr (P.toNat / Q)) 9218868437227405311 : Nat) : Int) else -((min (ur P.natAbs Q) 9218868437227405312 : Nat) : Int)
theorem dp_range (P : Int) (Q : Nat) : -9218868437227405312 ≤ dp P Q ∧ dp P Q ≤ 9218868437227405311 := by
  unfold dp; split <;> omega
theorem le_dp {P : Int} {Q : Nat} {i : Int} (hQ : 0 < Q) (h1 : -9218868437227405311 ≤ i) (h2 : i ≤ 9218868437227405311) : i ≤ dp P Q ↔ fV i * Q ≤ P := by
  unfold dp
  by_cases hP : 0 ≤ P
  · rw [if_pos hP]
    by_cases hi : 0 ≤ i
    · have e := le_fr (P := P.toNat) (Q := Q) (r := i.toNat) hQ
      have ev : fV i * Q = ((fv i.toNat * Q : Nat) : Int) := by unfold fV; rw [if_pos hi, Int.natCast_mul]
      rw [ev]
      generalize fv i.toNat * Q = X at *
      omega
    · have ev : fV i * Q = -((fv i.natAbs * Q : Nat) : Int) := by unfold fV; rw [if_neg hi, Int.natCast_mul, Int.neg_mul]
      rw [ev]
      generalize fv i.natAbs * Q = X
      omega
  · rw [if_neg hP]
    by_cases hi : 0 < i
    · have ev : fV i * Q = ((fv i.toNat * Q : Nat) : Int) := by unfold fV; rw [if_pos (by omega), Int.natCast_mul]
      rw [ev]
      generalize fv i.toNat * Q = X
      have : 1 ≤ ur P.natAbs Q := by
        have := (ur_le (P := P.natAbs) (Q := Q) (r := 0) hQ)
        rw [fv_zero, Nat.zero_mul] at this
        omega
      omega
    · have ev : fV i * Q = -((fv i.natAbs * Q : Nat) : Int) := by
        unfold fV
        by_cases h0 : i = 0
        · subst h0; simp [fv_zero]
        · rw [if_neg (by omega), Int.natCast_mul, Int.neg_mul]
      rw [ev]
      have e := ur_le (P := P.natAbs) (Q := Q) (r := i.natAbs) hQ
      generalize fv i.natAbs * Q = X at *
      omega
theorem dp_mono {P P' : Int} {Q Q' : Nat} (hQ : 0 < Q) (hQ' : 0 < Q') (h : P * Q' ≤ P' * Q) : dp P Q ≤ dp P' Q' := by
  have r1 := dp_range P Q
  have r2 := dp_range P' Q'
  by_cases hi : dp P Q = -9218868437227405312
  · omega
  · rw [le_dp hQ' (by omega) r1.2]
    have h1 := (le_dp (P := P) hQ (by omega) r1.2).1 (Int.le_refl _)
    have h2 : fV (dp P Q) * Q' * Q ≤ P' * Q := by
      rw [Int.mul_right_comm]
      exact Int.le_trans (Int.mul_le_mul_of_nonneg_right h1 (by omega)) h
    exact Int.le_of_mul_le_mul_right h2 (by omega)
theorem dp_zero {Q : Nat} (hQ : 0 < Q) : dp 0 Q = 0 := by
  have h : fr (0 / Q) = 0 := by rw [Nat.zero_div]; exact fr_uniq (by simp [fv_zero]) (by decide)
  unfold dp
  rw [if_pos (by omega), Int.toNat_zero, h]; rfl
/-! ### The words of rounded numbers -/
theorem fI_capF (k : Nat) (d : Int) : fI (capR false k d) = if 9218868437227405312 ≤ k then (if 0 ≤ d then 9218868437227405312 else 9218868437227405311) else (k : Int) := by
  by_cases h : 9218868437227405312 ≤ k
  · rw [capF_hi h, if_pos h]; split <;> rfl
  · rw [capF_lo (by omega), if_neg h]; unfold fI; rw [if_pos (by omega)]
theorem fI_capT (k : Nat) (d : Int) : fI (capR true k d) = -(if 9218868437227405312 ≤ k then (if 0 ≤ d then 9218868437227405312 else 9218868437227405311) else (k : Int)) := by
  by_cases h : 9218868437227405312 ≤ k
  · rw [capT_hi h, if_pos h]; split <;> rfl
  · rw [capT_lo (by omega), if_neg h]
    by_cases h0 : k = 0
    · rw [if_pos h0, h0]; rfl
    · rw [if_neg h0]; unfold fI; rw [if_neg (by omega)]; omega
theorem capR_ok (s : Bool) (k : Nat) (d : Int) : capR s k d < 18446744073709551616 ∧ capR s k d ≠ 9223372036854775808 ∧ rungB (capR s k d) ≤ 9218868437227405312 := by
  cases s
  · by_cases h : 9218868437227405312 ≤ k
    · rw [capF_hi h]; unfold rungB; split <;> (refine ⟨by omega, by omega, ?_⟩; split <;> omega)
    · rw [capF_lo (by omega)]; unfold rungB; refine ⟨by omega, by omega, ?_⟩; split <;> omega
  · by_cases h : 9218868437227405312 ≤ k
    · rw [capT_hi h]; unfold rungB; split <;> (refine ⟨by omega, by omega, ?_⟩; split <;> omega)
    · rw [capT_lo (by omega)]; unfold rungB; split <;> (refine ⟨by omega, by omega, ?_⟩; split <;> omega)
/-- P / Q, rounded. -/
def rd (P : Int) (Q : Nat) (dir : Int) : Nat := rnd (decide (P < 0)) P.natAbs Q dir
theorem rd_ok (P : Int) (Q : Nat) (dir : Int) : rd P Q dir < 18446744073709551616 ∧ rd P Q dir ≠ 9223372036854775808 ∧ isN (rd P Q dir) := by
  have h := capR_ok (decide (P < 0)) (rndR P.natAbs Q (if decide (P < 0) = true then -dir else dir)) (if decide (P < 0) = true then -dir else dir)
  refine ⟨h.1, h.2.1, ?_⟩
  have h3 := h.2.2
  have e : rd P Q dir = capR (decide (P < 0)) (rndR P.natAbs Q (if decide (P < 0) = true then -dir else dir)) (if decide (P < 0) = true then -dir else dir) := rfl
  rw [← e] at h3
  have := rung_abs (rd P Q dir)
  unfold isN; omega
theorem rndR_dn {A B : Nat} : rndR A B (-1) = fr (A / B) := by
  unfold rndR
  rw [if_neg]; unfold upR; omega
theorem rndR_up {A B : Nat} : rndR A B 1 = ur A B := by
  unfold rndR ur
  by_cases h : fv (fr (A / B)) * B = A
  · rw [if_pos h, if_neg]; unfold upR; omega
  · rw [if_neg h, if_pos]; unfold upR; omega
theorem fI_rd_dn {P : Int} {Q : Nat} : fI (rd P Q (-1)) = dp P Q := by
  unfold rd dp
  by_cases hP : 0 ≤ P
  · rw [if_pos hP, decide_eq_false (by omega)]
    show fI (capR false (rndR P.natAbs Q (-1)) (-1)) = _
    rw [rndR_dn, fI_capF, show P.natAbs = P.toNat by omega, if_neg (show ¬ (0 : Int) ≤ -1 by decide)]
    split <;> omega
  · rw [if_neg hP, decide_eq_true (by omega)]
    show fI (capR true (rndR P.natAbs Q (- -1)) (- -1)) = _
    rw [show (- -1 : Int) = 1 by decide, rndR_up, fI_capT, if_pos (show (0 : Int) ≤ 1 by decide)]
    split <;> omega
theorem fI_rd_up {P : Int} {Q : Nat} (hQ : 0 < Q) : fI (rd P Q 1) = -dp (-P) Q := by
  by_cases h0 : P = 0
  · subst h0
    rw [Int.neg_zero, dp_zero hQ]
    unfold rd
    show fI (capR false (rndR 0 Q 1) 1) = _
    have : ur 0 Q = 0 := by have := (ur_le (P := 0) (Q := Q) (r := 0) hQ).2 (by omega); omega
    rw [rndR_up, this]; rfl
  · unfold rd dp
    by_cases hP : 0 ≤ P
    · rw [if_neg (by omega), decide_eq_false (by omega)]
      show fI (capR false (rndR P.natAbs Q 1) 1) = _
      rw [rndR_up, fI_capF, Int.natAbs_neg, if_pos (show (0 : Int) ≤ 1 by decide)]
      split <;> omega
    · rw [if_pos (by omega), decide_eq_true (by omega)]
      show fI (capR true (rndR P.natAbs Q (-1)) (-1)) = _
      rw [rndR_dn, fI_capT, show P.natAbs = (-P).toNat by omega, if_neg (show ¬ (0 : Int) ≤ -1 by decide)]
      split <;> omega
/-- A word is told by its place, but for -0. -/
theorem fI_inj {a b : Nat} (ha : a ≠ 9223372036854775808) (hb : b ≠ 9223372036854775808) (h : fI a = fI b) : a = b := by
  unfold fI at h
  split at h <;> split at h <;> omega
end Go.Sim
