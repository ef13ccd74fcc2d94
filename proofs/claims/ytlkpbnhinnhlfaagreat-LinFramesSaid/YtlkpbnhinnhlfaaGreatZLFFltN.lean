/- What is proved: ulp.Add, ulp.Mul and ulp.Round of finite floats yield the words of the exact results, rounded. -/
import Derived.Test.YtlkpbnhinnhlfaaGreatZLFFltA
import Derived.Test.YtlkpbnhinnhlfaaGreatZLFWF3

namespace Go.Sim.YtlkpbnhinnhlfaaGreat
open Go.RowKit Go.Proofs Go.Proofs.Tryz
set_option exponentiation.threshold 5000
theorem sgn_fV (b : Nat) : sgn (negB b) (qP b * 2 ^ sP b) = fV (fI b) := by
  rw [fV_fI, fv_qs]
  unfold sgn Ieee.signed
  simp only [Nat.shiftLeft_zero]
theorem parts_ok {b : Nat} (hf : isF b) (h0 : rungB b ≠ 0) : POk (partsB b) (qP b) (sP b) ∧ (partsB b).Neg = negB b := by
  have hr := isF_rung.1 hf
  unfold partsB
  rw [if_neg h0]
  refine ⟨⟨rfl, ?_, qP_lt b, rfl, by unfold sP; omega, qP_ge b⟩, rfl⟩
  unfold qP sP; omega
/-- What parts stand for. -/
def PV (p : GParts) (T : Int) : Prop := (p = GParts.zero ∧ T = 0) ∨ ∃ M X, POk p M X ∧ T = sgn p.Neg (M * 2 ^ X)
theorem parts_pv {b : Nat} (hf : isF b) : PV (partsB b) (fV (fI b)) := by
  by_cases h0 : rungB b = 0
  · left
    unfold partsB
    rw [if_pos h0, fV_fI, h0, fv_zero]
    refine ⟨rfl, ?_⟩
    unfold Ieee.signed; simp
  · obtain ⟨h1, h2⟩ := parts_ok hf h0
    exact .inr ⟨_, _, h1, by rw [h2, sgn_fV]⟩
theorem amount_one {p : GParts} {M X : Nat} (h : POk p M X) : Amount { Gulpvalue.zero with neg_ := p.Neg, lo_ := p.M, e_ := p.E } 0 M M (M * 2 ^ X) 1 := by
  obtain ⟨hM, hM0, hM1, hE, hX, hMc⟩ := h
  have h2 := Nat.two_pow_pos X
  refine ⟨by omega, rfl, hM, by omega, by omega, ?_, by omega, ⟨2 ^ X, 0, X, by omega, ?_, Nat.le_refl _, by rw [Nat.add_mul]; omega, ?_⟩, fun h => by cases h⟩
  · show -10000 ≤ p.E ∧ p.E ≤ 10000; omega
  · show p.E + 1074 = _; omega
  · exact ⟨fun h => (by cases h), fun h => absurd rfl h⟩
theorem sgn_abs (s : Bool) (n : Nat) : (sgn s n).natAbs = n := by unfold sgn; split <;> omega
theorem sgn_neg {s : Bool} {n : Nat} (h : n ≠ 0) : decide (sgn s n < 0) = s := by
  unfold sgn; cases s
  · simp
  · simp; omega
theorem one_ev {p : GParts} {M X : Nat} (dir : Int) (h : POk p M X) : Ev_ulp_value_round { Gulpvalue.zero with neg_ := p.Neg, lo_ := p.M, e_ := p.E } dir (rnd (decide (sgn p.Neg (M * 2 ^ X) < 0)) (sgn p.Neg (M * 2 ^ X)).natAbs 1 dir) := by
  have h2 := Nat.two_pow_pos X
  rw [sgn_abs, sgn_neg (Nat.mul_ne_zero h.h0 (by omega))]
  exact round_ev (amount_one h)
theorem zero_ev (dir : Int) : Ev_ulp_value_round { Gulpvalue.zero with neg_ := GParts.zero.Neg, lo_ := GParts.zero.M, e_ := GParts.zero.E } dir 0 := by
  have h : Amount { Gulpvalue.zero with neg_ := GParts.zero.Neg, lo_ := GParts.zero.M, e_ := GParts.zero.E } 0 0 0 0 1 :=
    ⟨rfl, rfl, rfl, by decide, by decide, by decide, by decide, ⟨2 ^ 1074, 0, 1074, Nat.mul_comm (2 ^ 1074) (2 ^ 0), by decide, by rw [Nat.zero_mul]; exact Nat.le_refl _, by rw [Nat.zero_add, Nat.one_mul]; exact Nat.two_pow_pos _, ⟨fun h => (by cases h), fun h => absurd (Nat.zero_mul _).symm h⟩⟩, fun h => by cases h⟩
  have := round_ev (dir := dir) h
  rwa [rnd_zero (by decide)] at this
theorem sum2 {p q : GParts} {S T : Int} (dir : Int) (hp : PV p S) (hq : PV q T) (ho : ¬ (p.E < q.E ∨ p.E = q.E ∧ p.M < q.M)) :
    ∃ v, Ev_ulp_sum p q v ∧ Ev_ulp_value_round v dir (rnd (decide (S + T < 0)) (S + T).natAbs 1 dir) := by
  rcases hq with ⟨rfl, rfl⟩ | ⟨K, Y, hq, rfl⟩
  · refine ⟨{ Gulpvalue.zero with neg_ := p.Neg, lo_ := p.M, e_ := p.E }, walk_ulp_sum (by unfold W_ulp_sum; exact Br.eT rfl rfl), ?_⟩
    rcases hp with ⟨rfl, rfl⟩ | ⟨M, X, hp, rfl⟩
    · have := zero_ev dir
      rw [Int.add_zero, Int.natAbs_zero, rnd_zero (by decide)]; exact this
    · rw [Int.add_zero]; exact one_ev dir hp
  · rcases hp with ⟨rfl, rfl⟩ | ⟨M, X, hp, rfl⟩
    · refine ⟨{ Gulpvalue.zero with neg_ := q.Neg, lo_ := q.M, e_ := q.E }, walk_ulp_sum (by unfold W_ulp_sum; exact Br.eF (by rw [hq.hM]; have := hq.h0; omega) (Br.eT rfl rfl)), ?_⟩
      rw [Int.zero_add]; exact one_ev dir hq
    · have h1 := hp.hE
      have h2 := hq.hE
      have h3 := hp.hM
      have h4 := hq.hM
      obtain ⟨v, hi, lo, N, k1, k2, k3⟩ := sum_ev hp hq (by omega)
      refine ⟨v, k1, ?_⟩
      have := round_ev (dir := dir) k2
      by_cases hz : sgn p.Neg (M * 2 ^ X) + sgn q.Neg (K * 2 ^ Y) = 0
      · rw [hz, Int.natAbs_zero, rnd_zero (by decide)] at this ⊢; exact this
      · rwa [k3 hz] at this
/-- The exact sum's word. -/
def addB (a b : Nat) (dir : Int) : Nat := rnd (decide (fV (fI a) + fV (fI b) < 0)) (fV (fI a) + fV (fI b)).natAbs 1 dir
/-- The exact product's word. -/
def mulB (a b : Nat) (dir : Int) : Nat := rnd (decide (fV (fI a) * fV (fI b) < 0)) (fV (fI a) * fV (fI b)).natAbs (2 ^ 1074) dir
theorem add_ev {a b : Nat} (dir : Int) (ha : a < 18446744073709551616) (hb : b < 18446744073709551616) (fa : isF a) (fb : isF b) : Ev_ulp_Add a b dir (addB a b dir) := by
  refine walk_ulp_Add ?_
  unfold W_ulp_Add
  refine Call.mk (both_ev ha hb) (Br.f (by simp [fa, fb]) ?_)
  simp only [if_pos fa, if_pos fb]
  have pa := parts_pv fa
  have pb := parts_pv fb
  generalize partsB a = p at *
  generalize partsB b = q at *
  refine ⟨fun x => x = decide (p.E < q.E ∨ p.E = q.E ∧ p.M < q.M), ?_, fun x hx => ?_⟩
  · refine Br.d (fun h => ?_) (fun h => Br.e (fun h2 => ?_) (fun h2 => ?_))
    · show _ = _; symm; rw [decide_eq_true_iff]; exact .inl h
    · show _ = _; rw [decide_eq_decide]; omega
    · show _ = _; symm; rw [decide_eq_false_iff_not]; omega
  · subst hx
    refine ⟨fun x y => (x = p ∧ y = q ∧ ¬ (p.E < q.E ∨ p.E = q.E ∧ p.M < q.M)) ∨ (x = q ∧ y = p ∧ (p.E < q.E ∨ p.E = q.E ∧ p.M < q.M)), ?_, ?_⟩
    · exact Br.d (fun h => .inr ⟨rfl, rfl, h⟩) (fun h => .inl ⟨rfl, rfl, h⟩)
    · rintro x y (⟨rfl, rfl, h⟩ | ⟨rfl, rfl, h⟩)
      · obtain ⟨v, k1, k2⟩ := sum2 dir pa pb h
        exact Call.mk k1 (Call.mk k2 rfl)
      · obtain ⟨v, k1, k2⟩ := sum2 dir pb pa (by omega)
        refine Call.mk k1 (Call.mk k2 ?_)
        show _ = addB a b dir
        unfold addB
        rw [Int.add_comm]
theorem mul_ev {a b : Nat} (dir : Int) (ha : a < 18446744073709551616) (hb : b < 18446744073709551616) (fa : isF a) (fb : isF b) : Ev_ulp_Mul a b dir (mulB a b dir) := by
  have h2 : 0 < 2 ^ 1074 := Nat.two_pow_pos 1074
  have hz : fV (fI a) = 0 ∨ fV (fI b) = 0 → mulB a b dir = 0 := by
    intro h
    unfold mulB
    rw [show fV (fI a) * fV (fI b) = 0 from by rcases h with h | h <;> rw [h] <;> simp, Int.natAbs_zero, rnd_zero h2]
  have fz : ∀ {x : Nat}, rungB x = 0 → fV (fI x) = 0 := by
    intro x h; rw [fV_fI, h, fv_zero]; unfold Ieee.signed; simp
  refine walk_ulp_Mul ?_
  unfold W_ulp_Mul
  refine Call.mk (both_ev ha hb) ⟨fun x => x = false, Call.mk (isNaN_ev ha) (Br.f (by simp [fa.n]) (Call.mk (isNaN_ev hb) (by simp [fb.n]))), fun x hx => ?_⟩
  subst hx
  refine Br.f rfl ?_
  rw [eq_zero ha, eq_zero hb]
  refine Br.d (fun h => (hz (.inl (fz h))).symm) (fun ha0 => Br.d (fun h => (hz (.inr (fz h))).symm) (fun hb0 => Br.f (by simp [fa, fb]) ?_))
  simp only [if_pos fa, if_pos fb]
  obtain ⟨pa, na⟩ := parts_ok fa ha0
  obtain ⟨pb, nb⟩ := parts_ok fb hb0
  have va := sgn_fV a
  have vb := sgn_fV b
  generalize partsB a = p at *
  generalize partsB b = q at *
  obtain ⟨hM, hM0, hM1, hE, hX, _⟩ := pa
  obtain ⟨hK, hK0, hK1, hF, hY, _⟩ := pb
  generalize qP a = M at *
  generalize sP a = X at *
  generalize qP b = K at *
  generalize sP b = Y at *
  have hMK : M * K < 9007199254740992 * 9007199254740992 := Nat.mul_lt_mul'' hM1 hK1
  rw [hM, hK]
  have p1 := Nat.two_pow_pos X
  have p2 := Nat.two_pow_pos Y
  have hval : fV (fI a) * fV (fI b) = sgn (p.Neg != q.Neg) (M * K * 2 ^ (X + Y)) := by
    rw [← va, ← vb, na, nb]
    have e : ((M * K * 2 ^ (X + Y) : Nat) : Int) = ((M * 2 ^ X : Nat) : Int) * ((K * 2 ^ Y : Nat) : Int) := by
      rw [← Int.natCast_mul, Nat.pow_add, Nat.mul_mul_mul_comm]
    unfold sgn
    rw [e]
    generalize ((M * 2 ^ X : Nat) : Int) = u
    generalize ((K * 2 ^ Y : Nat) : Int) = w
    cases negB a <;> cases negB b <;> simp [Int.neg_mul, Int.mul_neg]
  have hne : M * K * 2 ^ (X + Y) ≠ 0 := Nat.mul_ne_zero (Nat.mul_ne_zero hM0 hK0) (by have := Nat.two_pow_pos (X + Y); omega)
  refine Call.mk (mul64_ev M K (by omega) (by omega)) (Let.as (p.E + q.E) (wi (by omega) (by omega)) (Call.mk (round_ev (hi := M * K / 18446744073709551616) (lo := M * K % 18446744073709551616) (N := M * K) (A := M * K * 2 ^ (X + Y)) (B := 2 ^ 1074) ⟨by omega, rfl, rfl, by omega, by omega, ?_, h2, ⟨2 ^ (X + Y), 1074, X + Y, Nat.mul_comm _ _, ?_, Nat.le_refl _, ?_, ?_⟩, fun h => by cases h⟩) ?_))
  · show -10000 ≤ p.E + q.E ∧ p.E + q.E ≤ 10000; omega
  · show p.E + q.E + 1074 = _; omega
  · rw [Nat.add_mul]; have := Nat.two_pow_pos (X + Y); omega
  · exact ⟨fun h => (by cases h), fun h => absurd rfl h⟩
  · show _ = mulB a b dir
    unfold mulB
    rw [hval, sgn_abs, sgn_neg hne]
end Go.Sim.YtlkpbnhinnhlfaaGreat
-- seatfit
