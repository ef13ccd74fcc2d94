/- What is proved: what products, quotients, powers and the order of numbers compute. -/
import Derived.Test.YtnhflokfcnfegaaRatOld
import Derived.Test.YtnhflokfcnfegaaBig

namespace Go.Sim.Ytnhflokfcnfegaa
open Go.RowKit Go.Proofs Go.Proofs.Try

/-- A whole number, with its sign, as data. -/
def numD (s : Bool) (m : Nat) : DV := .st [1, 1, 1] [.v (.bool s), .sl 83 1 (bl (dig m)), .v (.int .i64 0)]

theorem eqRat (a b c d : Int) : EqOk prog 10000 23 (.st [1, 1] [.v (.int .i64 a), .v (.int .i64 b)]) (.st [1, 1] [.v (.int .i64 c), .v (.int .i64 d)]) ((a == c) && ((b == d) && true)) :=
  EqOk.struct tabOk Try.underlying23 (by decide +kernel) ⟨by decide, rfl, ⟨te2, rfl, rfl, rfl⟩, _, _, EqOk.int ok2 rfl, ⟨by decide, rfl, ⟨te2, rfl, rfl, rfl⟩, _, _, EqOk.int ok2 rfl, rfl, rfl⟩, rfl⟩

theorem mul64_fn (a b : Nat) (ha : a < 18446744073709551616) (hb : b < 18446744073709551616) : AFn prog 49 [.v (.int .u64 (a : Nat)), .v (.int .u64 (b : Nat))] (.tup [.v (.int .u64 ((a * b / 18446744073709551616 : Nat) : Int)), .v (.int .u64 ((a * b % 18446744073709551616 : Nat) : Int))]) false := by
  obtain ⟨x0, hx0⟩ : ∃ x0, x0 = a % 4294967296 := ⟨_, rfl⟩
  obtain ⟨x1, hx1⟩ : ∃ x1, x1 = a / 4294967296 := ⟨_, rfl⟩
  obtain ⟨y0, hy0⟩ : ∃ y0, y0 = b % 4294967296 := ⟨_, rfl⟩
  obtain ⟨y1, hy1⟩ : ∃ y1, y1 = b / 4294967296 := ⟨_, rfl⟩
  have b00 : x0 * y0 ≤ 4294967295 * 4294967295 := Nat.mul_le_mul (by omega) (by omega)
  have b10 : x1 * y0 ≤ 4294967295 * 4294967295 := Nat.mul_le_mul (by omega) (by omega)
  have b01 : x0 * y1 ≤ 4294967295 * 4294967295 := Nat.mul_le_mul (by omega) (by omega)
  have b11 : x1 * y1 ≤ 4294967295 * 4294967295 := Nat.mul_le_mul (by omega) (by omega)
  obtain ⟨w0, hw0⟩ : ∃ w0, w0 = x0 * y0 := ⟨_, rfl⟩
  obtain ⟨t, ht⟩ : ∃ t, t = x1 * y0 + w0 / 4294967296 := ⟨_, rfl⟩
  obtain ⟨w1, hw1⟩ : ∃ w1, w1 = t % 4294967296 + x0 * y1 := ⟨_, rfl⟩
  refine AFn.intro' (L := [(0, .dat (.v (.int .u64 (a : Nat)))), (1, .dat (.v (.int .u64 (b : Nat))))]) tabOk Try.func49 rfl rfl Try.ntmps49 rfl rfl rfl ?_
  refine AWp.seq ?_
  refine AWp.regionN (fun _ => false) rfl ?_
  refine pI rfl rfl rfl ?_
  refine pI rfl rfl rfl ?_
  refine AOps.done ?_
  refine AWp.seq ?_
  refine AWp.regionN (fun _ => false) rfl ?_
  refine pI rfl rfl rfl ?_
  refine AOps.i tabOk rfl rfl rfl (j := ((x0 : Nat) : Int)) (by rw [and32 ha, hx0]) ?_
  refine pI rfl rfl rfl ?_
  refine AOps.done ?_
  refine AWp.seq ?_
  refine AWp.regionN (fun _ => false) rfl ?_
  refine pI rfl rfl rfl ?_
  refine AOps.i tabOk rfl rfl rfl (j := ((x1 : Nat) : Int)) (by rw [hx1]; exact shr32 a) ?_
  refine pI rfl rfl rfl ?_
  refine AOps.done ?_
  refine AWp.seq ?_
  refine AWp.regionN (fun _ => false) rfl ?_
  refine pI rfl rfl rfl ?_
  refine AOps.i tabOk rfl rfl rfl (j := ((y0 : Nat) : Int)) (by rw [and32 hb, hy0]) ?_
  refine pI rfl rfl rfl ?_
  refine AOps.done ?_
  refine AWp.seq ?_
  refine AWp.regionN (fun _ => false) rfl ?_
  refine pI rfl rfl rfl ?_
  refine AOps.i tabOk rfl rfl rfl (j := ((y1 : Nat) : Int)) (by rw [hy1]; exact shr32 b) ?_
  refine pI rfl rfl rfl ?_
  refine AOps.done ?_
  refine AWp.seq ?_
  refine AWp.regionN (fun _ => false) rfl ?_
  refine pI rfl rfl rfl ?_
  refine pI rfl rfl rfl ?_
  refine AOps.i tabOk rfl rfl rfl (j := ((w0 : Nat) : Int)) (by rw [← Int.natCast_mul, ← hw0, wu (by omega) (by omega)]) ?_
  refine pI rfl rfl rfl ?_
  refine AOps.done ?_
  refine AWp.seq ?_
  refine AWp.regionN (fun _ => false) rfl ?_
  refine pI rfl rfl rfl ?_
  refine pI rfl rfl rfl ?_
  refine AOps.i tabOk rfl rfl rfl (j := ((x1 * y0 : Nat) : Int)) (by rw [← Int.natCast_mul, wu (by omega) (by omega)]) ?_
  refine pI rfl rfl rfl ?_
  refine AOps.i tabOk rfl rfl rfl (j := ((w0 / 4294967296 : Nat) : Int)) (shr32 w0) ?_
  refine AOps.i tabOk rfl rfl rfl (j := ((t : Nat) : Int)) (by rw [wu (by omega) (by omega)]; omega) ?_
  refine pI rfl rfl rfl ?_
  refine AOps.done ?_
  refine AWp.seq ?_
  refine AWp.regionN (fun _ => false) rfl ?_
  refine pI rfl rfl rfl ?_
  refine AOps.i tabOk rfl rfl rfl (j := ((t % 4294967296 : Nat) : Int)) (and32 (by omega)) ?_
  refine pI rfl rfl rfl ?_
  refine AOps.done ?_
  refine AWp.seq ?_
  refine AWp.regionN (fun _ => false) rfl ?_
  refine pI rfl rfl rfl ?_
  refine AOps.i tabOk rfl rfl rfl (j := ((t / 4294967296 : Nat) : Int)) (shr32 t) ?_
  refine pI rfl rfl rfl ?_
  refine AOps.done ?_
  refine AWp.seq ?_
  refine AWp.regionN (fun _ => false) rfl ?_
  refine pI rfl rfl rfl ?_
  refine pI rfl rfl rfl ?_
  refine pI rfl rfl rfl ?_
  refine AOps.i tabOk rfl rfl rfl (j := ((x0 * y1 : Nat) : Int)) (by rw [← Int.natCast_mul, wu (by omega) (by omega)]) ?_
  refine AOps.i tabOk rfl rfl rfl (j := ((w1 : Nat) : Int)) (by rw [wu (by omega) (by omega)]; omega) ?_
  refine pI rfl rfl rfl ?_
  refine AOps.done ?_
  refine AWp.seq ?_
  refine AWp.regionN (fun _ => false) rfl ?_
  refine pI rfl rfl rfl ?_
  refine pI rfl rfl rfl ?_
  refine AOps.i tabOk rfl rfl rfl (j := ((x1 * y1 : Nat) : Int)) (by rw [← Int.natCast_mul, wu (by omega) (by omega)]) ?_
  refine pI rfl rfl rfl ?_
  refine AOps.i tabOk rfl rfl rfl (j := ((x1 * y1 + t / 4294967296 : Nat) : Int)) (by rw [wu (by omega) (by omega)]; omega) ?_
  refine pI rfl rfl rfl ?_
  refine AOps.i tabOk rfl rfl rfl (j := ((w1 / 4294967296 : Nat) : Int)) (shr32 w1) ?_
  refine AOps.i tabOk rfl rfl rfl (j := ((a * b / 18446744073709551616 : Nat) : Int)) (by rw [← mul64_ok (x0 := x0) (x1 := x1) (y0 := y0) (y1 := y1) (by omega) (by omega) hw0 ht hw1, wu (by omega) (by omega)]; omega) ?_
  refine pI rfl rfl rfl ?_
  refine AOps.done ?_
  refine AWp.seq ?_
  refine AWp.regionN (fun _ => false) rfl ?_
  refine pI rfl rfl rfl ?_
  refine pI rfl rfl rfl ?_
  refine AOps.i tabOk rfl rfl rfl (j := ((a * b % 18446744073709551616 : Nat) : Int)) (by rw [← Int.natCast_mul, wuN]) ?_
  refine pI rfl rfl rfl ?_
  refine AOps.done ?_
  refine AWp.ret ?_
  exact ⟨_, rfl, rfl⟩

theorem mul_fn (a1 a2 b1 b2 : Int) (h1 : inI a1) (h2 : inI a2) (h3 : inI b1) (h4 : inI b2) : AFn prog 26 [.st [1, 1] [.v (.int .i64 a1), .v (.int .i64 a2)], .st [1, 1] [.v (.int .i64 b1), .v (.int .i64 b2)]] (ansD (mulS (a1, a2) (b1, b2))) false := by
  refine AFn.intro' (L := [(0, .dat (.st [1, 1] [.v (.int .i64 a1), .v (.int .i64 a2)])), (1, .dat (.st [1, 1] [.v (.int .i64 b1), .v (.int .i64 b2)]))]) tabOk Try.func26 rfl rfl Try.ntmps26 rfl rfl rfl ?_
  refine AWp.seq ?_
  refine AWp.regionN (fun _ => false) rfl ?_
  refine AOps.box (v := .dat (.st _ _)) rfl rfl rfl rfl rfl rfl ?_
  refine AOps.box (v := .dat (.st _ _)) rfl rfl rfl rfl rfl rfl ?_
  refine AOps.alloc tabOk rfl rfl rfl rfl rfl ?_
  refine pI rfl rfl rfl ?_
  refine AOps.done ?_
  refine AWp.seq ?_
  refine AWp.seq ?_
  refine AWp.regionN (fun _ => false) rfl ?_
  refine pT rfl rfl rfl ?_
  refine AOps.call (right_fn a1 a2 h1 h2) rfl rfl rfl ⟨.inl rfl, trivial⟩ ?_
  refine AOps.b tabOk rfl rfl rfl (fun c14 h14 => ?_)
  refine pB rfl rfl rfl ?_
  cases c14
  · -- c14 = false
    have hr1 : rightS a1 a2 = true := by simpa using h14
    refine pT rfl rfl rfl ?_
    refine AOps.call (right_fn b1 b2 h3 h4) rfl rfl rfl ⟨.inl rfl, trivial⟩ ?_
    refine AOps.b tabOk rfl rfl rfl (fun c18 h18 => ?_)
    refine pB rfl rfl rfl ?_
    refine AOps.done ?_
    refine AWp.cond rfl (fun e => ?_) (fun e => ?_)
    · subst e
      have hr : rightS b1 b2 = false := by simpa using h18
      refine AWp.seq ?_
      refine AWp.regionN (fun o => writes o) rfl ?_
      refine pT rfl rfl rfl ?_
      refine AOps.store tabOk (v := .dat (.st _ _)) rfl rfl rfl rfl rfl rfl rfl rfl rfl rfl rfl rfl rfl ?_
      refine pI rfl rfl rfl ?_
      refine AOps.done ?_
      refine AWp.ret ?_
      exact ⟨_, rfl, by rw [mulS, if_neg (by simp [hr])]; rfl⟩
    · subst e
      have hr2 : rightS b1 b2 = true := by simpa using h18
      obtain ⟨p1, p2, p3⟩ := rightS_spec.1 hr1
      obtain ⟨q1, q2, q3⟩ := rightS_spec.1 hr2
      unfold inI at h1 h2 h3 h4
      have red := @mul_red (decide (a1 < 0) != decide (b1 < 0)) a1.natAbs b1.natAbs a2.natAbs b2.natAbs p3 q3 (by omega) (by omega)
      have hg : 0 < Nat.gcd a1.natAbs b2.natAbs := Nat.gcd_pos_of_pos_right _ (by omega)
      have hk : 0 < Nat.gcd b1.natAbs a2.natAbs := Nat.gcd_pos_of_pos_right _ (by omega)
      have l1 := Nat.div_le_self a1.natAbs (Nat.gcd a1.natAbs b2.natAbs)
      have l2 := Nat.div_le_self b1.natAbs (Nat.gcd b1.natAbs a2.natAbs)
      have l3 := Nat.div_le_self a2.natAbs (Nat.gcd b1.natAbs a2.natAbs)
      have l4 := Nat.div_le_self b2.natAbs (Nat.gcd a1.natAbs b2.natAbs)
      have u1 : 0 < a2.natAbs / Nat.gcd b1.natAbs a2.natAbs := Nat.div_pos (Nat.gcd_le_right _ (by omega)) hk
      have u2 : 0 < b2.natAbs / Nat.gcd a1.natAbs b2.natAbs := Nat.div_pos (Nat.gcd_le_right _ (by omega)) hg
      have u3 := Nat.mul_pos u1 u2
      have hS : mulS (a1, a2) (b1, b2) = madeS (decide (a1 < 0) != decide (b1 < 0)) (a1.natAbs * b1.natAbs) (a2.natAbs * b2.natAbs) := by rw [mulS, if_pos (by simp [hr1, hr2])]
      rw [red.2, madeS_cop red.1] at hS
      have i1 : (0 : Int) ≤ ((a1.natAbs / Nat.gcd a1.natAbs b2.natAbs : Nat) : Int) := Int.natCast_nonneg _
      have i2 : (0 : Int) ≤ ((b1.natAbs / Nat.gcd b1.natAbs a2.natAbs : Nat) : Int) := Int.natCast_nonneg _
      have i3 : (0 : Int) ≤ ((a2.natAbs / Nat.gcd b1.natAbs a2.natAbs : Nat) : Int) := Int.natCast_nonneg _
      have i4 : (0 : Int) ≤ ((b2.natAbs / Nat.gcd a1.natAbs b2.natAbs : Nat) : Int) := Int.natCast_nonneg _
      refine AWp.skip ?_
      refine AWp.seq ?_
      refine AWp.regionD (fun _ => false) mixed (by decide +kernel) rfl ?_
      refine pP rfl rfl rfl ?_
      refine pI rfl rfl rfl ?_
      refine AOps.call (rsize_fn a1 h1) rfl rfl rfl ⟨.inl rfl, trivial⟩ ?_
      refine pP rfl rfl rfl ?_
      refine pI rfl rfl rfl ?_
      refine AOps.i tabOk rfl rfl rfl (j := ((b2.natAbs : Nat) : Int)) (by rw [wu (by omega) (by omega)]; omega) ?_
      refine AOps.call (gcd_fn a1.natAbs b2.natAbs) rfl rfl rfl ⟨.inl rfl, .inl rfl, trivial⟩ ?_
      refine pP rfl rfl rfl ?_
      refine pI rfl rfl rfl ?_
      refine AOps.call (rsize_fn b1 h3) rfl rfl rfl ⟨.inl rfl, trivial⟩ ?_
      refine pP rfl rfl rfl ?_
      refine pI rfl rfl rfl ?_
      refine AOps.i tabOk rfl rfl rfl (j := ((a2.natAbs : Nat) : Int)) (by rw [wu (by omega) (by omega)]; omega) ?_
      refine AOps.call (gcd_fn b1.natAbs a2.natAbs) rfl rfl rfl ⟨.inl rfl, .inl rfl, trivial⟩ ?_
      refine pI rfl rfl rfl ?_
      refine pI rfl rfl rfl ?_
      refine AOps.done ?_
      refine AWp.seq ?_
      refine AWp.regionD (fun _ => false) mixed (by decide +kernel) rfl ?_
      refine pP rfl rfl rfl ?_
      refine pI rfl rfl rfl ?_
      refine AOps.call (rsize_fn a1 h1) rfl rfl rfl ⟨.inl rfl, trivial⟩ ?_
      refine pI rfl rfl rfl ?_
      refine AOps.q rfl rfl rfl rfl rfl (rbin_quo (by simp only [ne_eq, Int.natCast_eq_zero]; omega)) (j := ((a1.natAbs / Nat.gcd a1.natAbs b2.natAbs : Nat) : Int)) (by rw [← Int.ofNat_tdiv, wu (by omega) (by omega)]) ?_
      refine pP rfl rfl rfl ?_
      refine pI rfl rfl rfl ?_
      refine AOps.call (rsize_fn b1 h3) rfl rfl rfl ⟨.inl rfl, trivial⟩ ?_
      refine pI rfl rfl rfl ?_
      refine AOps.q rfl rfl rfl rfl rfl (rbin_quo (by simp only [ne_eq, Int.natCast_eq_zero]; omega)) (j := ((b1.natAbs / Nat.gcd b1.natAbs a2.natAbs : Nat) : Int)) (by rw [← Int.ofNat_tdiv, wu (by omega) (by omega)]) ?_
      refine AOps.call (mul64_fn (a1.natAbs / Nat.gcd a1.natAbs b2.natAbs) (b1.natAbs / Nat.gcd b1.natAbs a2.natAbs) (by omega) (by omega)) rfl rfl rfl ⟨.inl rfl, .inl rfl, trivial⟩ ?_
      refine pU rfl rfl rfl ?_
      refine pI rfl rfl rfl ?_
      refine pI rfl rfl rfl ?_
      refine pI rfl rfl rfl ?_
      refine pI rfl rfl rfl ?_
      refine AOps.done ?_
      refine AWp.seq ?_
      refine AWp.regionD (fun _ => false) mixed (by decide +kernel) rfl ?_
      refine pP rfl rfl rfl ?_
      refine pI rfl rfl rfl ?_
      refine AOps.i tabOk rfl rfl rfl (j := ((a2.natAbs : Nat) : Int)) (by rw [wu (by omega) (by omega)]; omega) ?_
      refine pI rfl rfl rfl ?_
      refine AOps.q rfl rfl rfl rfl rfl (rbin_quo (by simp only [ne_eq, Int.natCast_eq_zero]; omega)) (j := ((a2.natAbs / Nat.gcd b1.natAbs a2.natAbs : Nat) : Int)) (by rw [← Int.ofNat_tdiv, wu (by omega) (by omega)]) ?_
      refine pP rfl rfl rfl ?_
      refine pI rfl rfl rfl ?_
      refine AOps.i tabOk rfl rfl rfl (j := ((b2.natAbs : Nat) : Int)) (by rw [wu (by omega) (by omega)]; omega) ?_
      refine pI rfl rfl rfl ?_
      refine AOps.q rfl rfl rfl rfl rfl (rbin_quo (by simp only [ne_eq, Int.natCast_eq_zero]; omega)) (j := ((b2.natAbs / Nat.gcd a1.natAbs b2.natAbs : Nat) : Int)) (by rw [← Int.ofNat_tdiv, wu (by omega) (by omega)]) ?_
      refine AOps.call (mul64_fn (a2.natAbs / Nat.gcd b1.natAbs a2.natAbs) (b2.natAbs / Nat.gcd a1.natAbs b2.natAbs) (by omega) (by omega)) rfl rfl rfl ⟨.inl rfl, .inl rfl, trivial⟩ ?_
      refine pU rfl rfl rfl ?_
      refine pI rfl rfl rfl ?_
      refine pI rfl rfl rfl ?_
      refine pI rfl rfl rfl ?_
      refine pI rfl rfl rfl ?_
      refine AOps.done ?_
      refine AWp.seq ?_
      refine AWp.seq ?_
      refine AWp.regionN (fun _ => false) rfl ?_
      refine pI rfl rfl rfl ?_
      refine AOps.b tabOk rfl rfl rfl (fun c64 h64 => ?_)
      refine pB rfl rfl rfl ?_
      cases c64
      · -- c64 = false
        have o1 : ¬ (0 < a1.natAbs / Nat.gcd a1.natAbs b2.natAbs * (b1.natAbs / Nat.gcd b1.natAbs a2.natAbs) / 18446744073709551616) := by have := h64; simp only [decide_eq_false_iff_not] at this; exact fun h => this (Int.natCast_pos.2 h)
        refine pI rfl rfl rfl ?_
        refine AOps.b tabOk rfl rfl rfl (fun c67 h67 => ?_)
        refine pB rfl rfl rfl ?_
        refine AOps.done ?_
        refine AWp.cond rfl (fun e => ?_) (fun e => ?_)
        · subst e
          have o2 : 0 < a2.natAbs / Nat.gcd b1.natAbs a2.natAbs * (b2.natAbs / Nat.gcd a1.natAbs b2.natAbs) / 18446744073709551616 := by have := h67; simp only [decide_eq_true_eq] at this; exact Int.natCast_pos.1 this
          refine AWp.seq ?_
          refine AWp.regionN (fun o => writes o) rfl ?_
          refine pT rfl rfl rfl ?_
          refine AOps.store tabOk (v := .dat (.st _ _)) rfl rfl rfl rfl rfl rfl rfl rfl rfl rfl rfl rfl rfl ?_
          refine pI rfl rfl rfl ?_
          refine AOps.done ?_
          refine AWp.ret ?_
          exact ⟨_, rfl, by rw [hS, if_neg (by omega)]; rfl⟩
        · subst e
          have o2 : ¬ (0 < a2.natAbs / Nat.gcd b1.natAbs a2.natAbs * (b2.natAbs / Nat.gcd a1.natAbs b2.natAbs) / 18446744073709551616) := by have := h67; simp only [decide_eq_false_iff_not] at this; exact fun h => this (Int.natCast_pos.2 h)
          have e1 : a1.natAbs / Nat.gcd a1.natAbs b2.natAbs * (b1.natAbs / Nat.gcd b1.natAbs a2.natAbs) % 18446744073709551616 = a1.natAbs / Nat.gcd a1.natAbs b2.natAbs * (b1.natAbs / Nat.gcd b1.natAbs a2.natAbs) := Nat.mod_eq_of_lt (by omega)
          have e2 : a2.natAbs / Nat.gcd b1.natAbs a2.natAbs * (b2.natAbs / Nat.gcd a1.natAbs b2.natAbs) % 18446744073709551616 = a2.natAbs / Nat.gcd b1.natAbs a2.natAbs * (b2.natAbs / Nat.gcd a1.natAbs b2.natAbs) := Nat.mod_eq_of_lt (by omega)
          refine AWp.skip ?_
          refine AWp.seq ?_
          refine AWp.regionN (fun o => writes o) rfl ?_
          refine pP rfl rfl rfl ?_
          refine pI rfl rfl rfl ?_
          refine AOps.b tabOk rfl rfl rfl (fun c72 h72 => ?_)
          refine pP rfl rfl rfl ?_
          refine pI rfl rfl rfl ?_
          refine AOps.b tabOk rfl rfl rfl (fun c75 h75 => ?_)
          refine AOps.b tabOk rfl rfl rfl (fun c76 h76 => ?_)
          refine pI rfl rfl rfl ?_
          refine pI rfl rfl rfl ?_
          refine AOps.call (made_fn _ (a1.natAbs / Nat.gcd a1.natAbs b2.natAbs * (b1.natAbs / Nat.gcd b1.natAbs a2.natAbs) % 18446744073709551616) (a2.natAbs / Nat.gcd b1.natAbs a2.natAbs * (b2.natAbs / Nat.gcd a1.natAbs b2.natAbs) % 18446744073709551616) (by omega) (by omega) (by omega)) rfl rfl rfl ⟨.inl rfl, .inl rfl, .inl rfl, trivial⟩ ?_
          refine pT rfl rfl rfl ?_
          refine pI rfl rfl rfl ?_
          refine AOps.store tabOk (v := .dat (.st _ _)) rfl rfl rfl rfl rfl rfl rfl rfl rfl rfl rfl rfl rfl ?_
          refine pI rfl rfl rfl ?_
          refine AOps.done ?_
          refine AWp.ret ?_
          refine ⟨_, rfl, ?_⟩
          rw [hS, ← madeS_cop red.1, e1, e2, ← h76, ← h72, ← h75]
          rfl
      · -- c64 = true
        have o1 : 0 < a1.natAbs / Nat.gcd a1.natAbs b2.natAbs * (b1.natAbs / Nat.gcd b1.natAbs a2.natAbs) / 18446744073709551616 := by have := h64; simp only [decide_eq_true_eq] at this; exact Int.natCast_pos.1 this
        refine AOps.off rfl rfl ?_
        refine AOps.off rfl rfl ?_
        refine pB rfl rfl rfl ?_
        refine AOps.done ?_
        refine AWp.condT rfl ?_
        refine AWp.seq ?_
        refine AWp.regionN (fun o => writes o) rfl ?_
        refine pT rfl rfl rfl ?_
        refine AOps.store tabOk (v := .dat (.st _ _)) rfl rfl rfl rfl rfl rfl rfl rfl rfl rfl rfl rfl rfl ?_
        refine pI rfl rfl rfl ?_
        refine AOps.done ?_
        refine AWp.ret ?_
        exact ⟨_, rfl, by rw [hS, if_neg (by omega)]; rfl⟩
  · -- c14 = true
    have hr : rightS a1 a2 = false := by simpa using h14
    refine AOps.off rfl rfl ?_
    refine AOps.off rfl rfl ?_
    refine AOps.off rfl rfl ?_
    refine pB rfl rfl rfl ?_
    refine AOps.done ?_
    refine AWp.condT rfl ?_
    refine AWp.seq ?_
    refine AWp.regionN (fun o => writes o) rfl ?_
    refine pT rfl rfl rfl ?_
    refine AOps.store tabOk (v := .dat (.st _ _)) rfl rfl rfl rfl rfl rfl rfl rfl rfl rfl rfl rfl rfl ?_
    refine pI rfl rfl rfl ?_
    refine AOps.done ?_
    refine AWp.ret ?_
    exact ⟨_, rfl, by rw [mulS, if_neg (by simp [hr])]; rfl⟩

theorem div_fn (a1 a2 b1 b2 : Int) (h1 : inI a1) (h2 : inI a2) (h3 : inI b1) (h4 : inI b2) : AFn prog 28 [.st [1, 1] [.v (.int .i64 a1), .v (.int .i64 a2)], .st [1, 1] [.v (.int .i64 b1), .v (.int .i64 b2)]] (ansD (divS (a1, a2) (b1, b2))) false := by
  refine AFn.intro' (L := [(0, .dat (.st [1, 1] [.v (.int .i64 a1), .v (.int .i64 a2)])), (1, .dat (.st [1, 1] [.v (.int .i64 b1), .v (.int .i64 b2)]))]) tabOk Try.func28 rfl rfl Try.ntmps28 rfl rfl rfl ?_
  refine AWp.seq ?_
  refine AWp.regionN (fun _ => false) rfl ?_
  refine AOps.box (v := .dat (.st _ _)) rfl rfl rfl rfl rfl rfl ?_
  refine AOps.box (v := .dat (.st _ _)) rfl rfl rfl rfl rfl rfl ?_
  refine AOps.alloc tabOk rfl rfl rfl rfl rfl ?_
  refine pI rfl rfl rfl ?_
  refine AOps.done ?_
  refine AWp.seq ?_
  refine AWp.block ?_
  refine AWp.seq ?_
  refine AWp.regionN (fun _ => false) rfl ?_
  refine pT rfl rfl rfl ?_
  refine AOps.call (right_fn a1 a2 h1 h2) rfl rfl rfl ⟨.inl rfl, trivial⟩ ?_
  refine AOps.b tabOk rfl rfl rfl (fun c9 h9 => ?_)
  refine pB rfl rfl rfl ?_
  cases c9
  · -- c9 = false
    have hr1 : rightS a1 a2 = true := by simpa using h9
    refine pT rfl rfl rfl ?_
    refine AOps.call (right_fn b1 b2 h3 h4) rfl rfl rfl ⟨.inl rfl, trivial⟩ ?_
    refine AOps.b tabOk rfl rfl rfl (fun c13 h13 => ?_)
    refine pB rfl rfl rfl ?_
    refine pB rfl rfl rfl ?_
    refine AOps.done ?_
    refine AWp.cond rfl (fun e => ?_) (fun e => ?_)
    · subst e
      have hr : rightS b1 b2 = false := by simpa using h13
      refine AWp.seq ?_
      refine AWp.regionN (fun o => writes o) rfl ?_
      refine pT rfl rfl rfl ?_
      refine AOps.store tabOk (v := .dat (.st _ _)) rfl rfl rfl rfl rfl rfl rfl rfl rfl rfl rfl rfl rfl ?_
      refine pI rfl rfl rfl ?_
      refine AOps.done ?_
      refine AWp.ret ?_
      exact ⟨_, rfl, by rw [divS, if_neg (by simp [hr])]; rfl⟩
    · subst e
      have hr2 : rightS b1 b2 = true := by simpa using h13
      obtain ⟨q1, q2, q3⟩ := rightS_spec.1 hr2
      refine AWp.seq ?_
      refine AWp.regionN (fun _ => false) rfl ?_
      refine pP rfl rfl rfl ?_
      refine pI rfl rfl rfl ?_
      refine AOps.b tabOk rfl rfl rfl (fun c19 h19 => ?_)
      refine pB rfl rfl rfl ?_
      refine AOps.done ?_
      refine AWp.cond rfl (fun e => ?_) (fun e => ?_)
      · subst e
        have h0 : b1 = 0 := by simpa using h19
        refine AWp.seq ?_
        refine AWp.regionN (fun o => writes o) rfl ?_
        refine pT rfl rfl rfl ?_
        refine AOps.store tabOk (v := .dat (.st _ _)) rfl rfl rfl rfl rfl rfl rfl rfl rfl rfl rfl rfl rfl ?_
        refine pI rfl rfl rfl ?_
        refine AOps.done ?_
        refine AWp.ret ?_
        exact ⟨_, rfl, by rw [divS, if_pos (by simp [hr1, hr2]), if_pos h0]; rfl⟩
      · subst e
        have h0 : b1 ≠ 0 := by simpa using h19
        have hS : divS (a1, a2) (b1, b2) = madeS (decide (a1 < 0) != decide (b1 < 0)) (a1.natAbs * b2.natAbs) (a2.natAbs * b1.natAbs) := by rw [divS, if_pos (by simp [hr1, hr2]), if_neg h0]
        refine AWp.seq ?_
        refine AWp.regionN (fun _ => false) rfl ?_
        refine pP rfl rfl rfl ?_
        refine pI rfl rfl rfl ?_
        refine AOps.b tabOk rfl rfl rfl (fun c24 h24 => ?_)
        refine pB rfl rfl rfl ?_
        refine AOps.done ?_
        refine AWp.cond rfl (fun e => ?_) (fun e => ?_)
        · subst e
          have hb : b1 < 0 := by simpa using h24
          have g4 := h4
          unfold inI at h3 h4
          have hr3 : rightS (-b2) (-b1) = true := rightS_spec.2 ⟨by omega, by omega, by rw [Int.natAbs_neg, Int.natAbs_neg, Nat.gcd_comm]; exact q3⟩
          refine AWp.seq ?_
          refine AWp.regionN (fun o => writes o) rfl ?_
          refine pT rfl rfl rfl ?_
          refine pP rfl rfl rfl ?_
          refine pI rfl rfl rfl ?_
          refine AOps.i tabOk rfl rfl rfl (j := -b2) (by rw [wi (by omega) (by omega)]; omega) ?_
          refine pP rfl rfl rfl ?_
          refine pI rfl rfl rfl ?_
          refine AOps.i tabOk rfl rfl rfl (j := -b1) (by rw [wi (by omega) (by omega)]; omega) ?_
          refine pT rfl rfl rfl ?_
          refine AOps.call (mul_fn a1 a2 (-b2) (-b1) h1 h2 (by unfold inI; omega) (by unfold inI; omega)) rfl rfl rfl ⟨.inl rfl, .inl rfl, trivial⟩ ?_
          refine pT rfl rfl rfl ?_
          refine pI rfl rfl rfl ?_
          refine AOps.store tabOk (v := .dat (.st _ _)) rfl rfl rfl rfl rfl rfl rfl rfl rfl rfl rfl rfl rfl ?_
          refine pI rfl rfl rfl ?_
          refine AOps.done ?_
          refine AWp.ret ?_
          exact ⟨_, rfl, by rw [hS, mulS, if_pos (by simp [hr1, hr3])]; simp only [Int.natAbs_neg]; rw [show decide (b1 < 0) = true by simpa using hb, show decide (-b2 < 0) = true by simp; omega]; rfl⟩
        · subst e
          have hb : 0 ≤ b1 := by simpa using h24
          have hr3 : rightS b2 b1 = true := rightS_spec.2 ⟨by omega, by omega, by rw [Nat.gcd_comm]; exact q3⟩
          refine AWp.skip ?_
          refine AWp.seq ?_
          refine AWp.regionN (fun o => writes o) rfl ?_
          refine pT rfl rfl rfl ?_
          refine pP rfl rfl rfl ?_
          refine pI rfl rfl rfl ?_
          refine pP rfl rfl rfl ?_
          refine pI rfl rfl rfl ?_
          refine pT rfl rfl rfl ?_
          refine AOps.call (mul_fn a1 a2 b2 b1 h1 h2 h4 h3) rfl rfl rfl ⟨.inl rfl, .inl rfl, trivial⟩ ?_
          refine pT rfl rfl rfl ?_
          refine pI rfl rfl rfl ?_
          refine AOps.store tabOk (v := .dat (.st _ _)) rfl rfl rfl rfl rfl rfl rfl rfl rfl rfl rfl rfl rfl ?_
          refine pI rfl rfl rfl ?_
          refine AOps.done ?_
          refine AWp.ret ?_
          exact ⟨_, rfl, by rw [hS, mulS, if_pos (by simp [hr1, hr3]), show decide (b1 < 0) = false by simpa using hb, show decide (b2 < 0) = false by simp; omega]; rfl⟩
  · -- c9 = true
    have hr : rightS a1 a2 = false := by simpa using h9
    refine AOps.off rfl rfl ?_
    refine AOps.off rfl rfl ?_
    refine AOps.off rfl rfl ?_
    refine pB rfl rfl rfl ?_
    refine pB rfl rfl rfl ?_
    refine AOps.done ?_
    refine AWp.condT rfl ?_
    refine AWp.seq ?_
    refine AWp.regionN (fun o => writes o) rfl ?_
    refine pT rfl rfl rfl ?_
    refine AOps.store tabOk (v := .dat (.st _ _)) rfl rfl rfl rfl rfl rfl rfl rfl rfl rfl rfl rfl rfl ?_
    refine pI rfl rfl rfl ?_
    refine AOps.done ?_
    refine AWp.ret ?_
    exact ⟨_, rfl, by rw [divS, if_neg (by simp [hr])]; rfl⟩

theorem power_fn (a n : Nat) (ha : (dig a).length ≤ 2) (hn : n ≤ 64) : AFn prog 48 [.sl 83 1 (bl (dig a)), .v (.int .i64 ((n : Nat) : Int))] (.sl 83 1 (bl (dig (a ^ n)))) false := by
  refine AFn.intro' (L := [(0, .dat (.sl 83 1 (bl (dig a)))), (1, .dat (.v (.int .i64 ((n : Nat) : Int))))]) tabOk Try.func48 rfl rfl Try.ntmps48 rfl rfl rfl ?_
  refine AWp.seq ?_
  refine AWp.regionN (fun _ => false) rfl ?_
  refine pS rfl rfl rfl ?_
  refine AOps.done ?_
  refine AWp.seq ?_
  refine AWp.regionN (fun _ => false) rfl ?_
  refine AOps.call (one_fn) rfl rfl rfl trivial ?_
  refine pS rfl rfl rfl ?_
  refine AOps.done ?_
  refine AWp.seq ?_
  refine AWp.seq ?_
  refine AWp.regionN (fun _ => false) rfl ?_
  refine pI rfl rfl rfl ?_
  refine AOps.done ?_
  refine AWp.block ?_
  refine AWp.loop (I := fun (i : Nat) => mkSt [(0, .dat (.sl 83 1 (bl (dig a)))), (1, .dat (.v (.int .i64 ((n : Nat) : Int)))), (5, .dat (.sl 83 1 (bl (dig (a ^ i))))), (6, .dat (.v (.int .i64 ((i : Nat) : Int))))] []) (Inv := fun i => i ≤ n ∧ (dig (a ^ i)).length ≤ 2 * i + 1) (μ := fun i => n - i) (x0 := 0) ⟨Nat.zero_le _, dig_length (by simp)⟩ (Sub.list (fun i => i) rfl rfl ⟨rfl, rfl, rfl, rfl, trivial⟩ trivial) (fun i hx => ?_)
  obtain ⟨k1, k2⟩ := hx
  refine AWp.seq ?_
  refine AWp.seq ?_
  refine AWp.regionN (fun _ => false) rfl ?_
  refine pI rfl rfl rfl ?_
  refine pI rfl rfl rfl ?_
  refine AOps.b tabOk rfl rfl rfl (fun c10 h10 => ?_)
  refine AOps.done ?_
  refine AWp.cond rfl (fun e => ?_) (fun e => ?_)
  · subst e
    have hi : i < n := by simpa using h10
    refine AWp.skip ?_
    refine AWp.seq ?_
    refine AWp.block ?_
    refine AWp.regionN (fun _ => false) rfl ?_
    refine pS rfl rfl rfl ?_
    refine pS rfl rfl rfl ?_
    refine AOps.call (by_fn (a ^ i) a (by omega) (by omega)) rfl rfl rfl ⟨.inl rfl, .inl rfl, trivial⟩ ?_
    rw [← Nat.pow_succ]
    refine pS rfl rfl rfl ?_
    refine AOps.done ?_
    refine AWp.regionN (fun _ => false) rfl ?_
    refine pI rfl rfl rfl ?_
    refine AOps.i tabOk rfl rfl rfl (j := ((i + 1 : Nat) : Int)) (by rw [wi (by omega) (by omega)]; omega) ?_
    refine pI rfl rfl rfl ?_
    refine AOps.done ?_
    exact ⟨i + 1, ⟨by omega, pow_len ha⟩, by omega, (Sub.list (fun i => i) rfl rfl ⟨rfl, rfl, rfl, rfl, trivial⟩ trivial)⟩
  · subst e
    have hi : i = n := by have := h10; simp at this; omega
    subst hi
    refine AWp.exit ?_
    refine AWp.seq ?_
    refine AWp.regionN (fun _ => false) rfl ?_
    refine pS rfl rfl rfl ?_
    refine pS rfl rfl rfl ?_
    refine AOps.done ?_
    refine AWp.ret ?_
    exact ⟨_, rfl, rfl⟩

theorem rcmp_fn (a1 a2 b1 b2 : Int) (h1 : inI a1) (h2 : inI a2) (h3 : inI b1) (h4 : inI b2) : AFn prog 20 [.st [1, 1] [.v (.int .i64 a1), .v (.int .i64 a2)], .st [1, 1] [.v (.int .i64 b1), .v (.int .i64 b2)]] (.v (.int .i64 (ratCmpS (a1, a2) (b1, b2)))) false := by
  refine AFn.intro' (L := [(0, .dat (.st [1, 1] [.v (.int .i64 a1), .v (.int .i64 a2)])), (1, .dat (.st [1, 1] [.v (.int .i64 b1), .v (.int .i64 b2)]))]) tabOk Try.func20 rfl rfl Try.ntmps20 rfl rfl rfl ?_
  refine AWp.seq ?_
  refine AWp.regionN (fun _ => false) rfl ?_
  refine AOps.box (v := .dat (.st _ _)) rfl rfl rfl rfl rfl rfl ?_
  refine AOps.box (v := .dat (.st _ _)) rfl rfl rfl rfl rfl rfl ?_
  refine pI rfl rfl rfl ?_
  refine AOps.done ?_
  refine AWp.cutseq (I := fun (_u : Unit) => mkSt [(2, .pt 2 [] 0), (3, .pt 3 [] 0)] [(2, .box 23 2 (.dat (.st [1, 1] [.v (.int .i64 a1), .v (.int .i64 a2)]))), (3, .box 23 2 (.dat (.st [1, 1] [.v (.int .i64 b1), .v (.int .i64 b2)])))]) (Inv := fun _u => rightS a1 a2 = true ∧ rightS b1 b2 = true ∧ ¬ (a1 = b1 ∧ a2 = b2)) ?_ (fun _u hi => ?_)
  · -- ahead of the cut
    refine AWp.seq ?_
    refine AWp.regionN (fun _ => false) rfl ?_
    refine pT rfl rfl rfl ?_
    refine AOps.call (right_fn a1 a2 h1 h2) rfl rfl rfl ⟨.inl rfl, trivial⟩ ?_
    refine AOps.b tabOk rfl rfl rfl (fun c11 h11 => ?_)
    refine pB rfl rfl rfl ?_
    cases c11
    · -- c11 = false
      have hr1 : rightS a1 a2 = true := by simpa using h11
      refine pT rfl rfl rfl ?_
      refine AOps.call (right_fn b1 b2 h3 h4) rfl rfl rfl ⟨.inl rfl, trivial⟩ ?_
      refine AOps.b tabOk rfl rfl rfl (fun c15 h15 => ?_)
      refine pB rfl rfl rfl ?_
      refine pB rfl rfl rfl ?_
      cases c15
      · -- c15 = false
        have hr2 : rightS b1 b2 = true := by simpa using h15
        refine pT rfl rfl rfl ?_
        refine pT rfl rfl rfl ?_
        refine AOps.eqst (by decide) rfl rfl rfl rfl rfl rfl rfl (by decide +kernel) (eqRat _ _ _ _) (fun c20 h20 => ?_)
        refine pB rfl rfl rfl ?_
        refine AOps.done ?_
        refine AWp.cond rfl (fun e => ?_) (fun e => ?_)
        · subst e
          have he : a1 = b1 ∧ a2 = b2 := by simpa using h20
          obtain ⟨rfl, rfl⟩ := he
          refine AWp.seq ?_
          refine AWp.regionN (fun _ => false) rfl ?_
          refine pI rfl rfl rfl ?_
          refine AOps.done ?_
          refine AWp.ret ?_
          exact ⟨_, rfl, by rw [ratCmpS]; simp [fin, sgnS]⟩
        · subst e
          have hne : ¬ (a1 = b1 ∧ a2 = b2) := by simpa using h20
          refine AWp.skip ?_
          exact ⟨(), ⟨hr1, hr2, hne⟩, (Sub.list (fun i => i) rfl rfl ⟨rfl, rfl, trivial⟩ ⟨rfl, rfl, trivial⟩)⟩
      · -- c15 = true
        have hr : rightS b1 b2 = false := by simpa using h15
        refine AOps.off rfl rfl ?_
        refine AOps.off rfl rfl ?_
        refine AOps.off rfl rfl ?_
        refine pB rfl rfl rfl ?_
        refine AOps.done ?_
        refine AWp.condT rfl ?_
        refine AWp.seq ?_
        refine AWp.regionN (fun _ => false) rfl ?_
        refine pI rfl rfl rfl ?_
        refine AOps.done ?_
        refine AWp.ret ?_
        exact ⟨_, rfl, by rw [ratCmpS, if_neg (by simp [hr])]; rfl⟩
    · -- c11 = true
      have hr : rightS a1 a2 = false := by simpa using h11
      refine AOps.off rfl rfl ?_
      refine AOps.off rfl rfl ?_
      refine AOps.off rfl rfl ?_
      refine pB rfl rfl rfl ?_
      refine pB rfl rfl rfl ?_
      refine AOps.off rfl rfl ?_
      refine AOps.off rfl rfl ?_
      refine AOps.off rfl rfl ?_
      refine pB rfl rfl rfl ?_
      refine AOps.done ?_
      refine AWp.condT rfl ?_
      refine AWp.seq ?_
      refine AWp.regionN (fun _ => false) rfl ?_
      refine pI rfl rfl rfl ?_
      refine AOps.done ?_
      refine AWp.ret ?_
      exact ⟨_, rfl, by rw [ratCmpS, if_neg (by simp [hr])]; rfl⟩
  · -- behind the cut
    obtain ⟨hr1, hr2, hne⟩ := hi
    obtain ⟨p1, p2, p3⟩ := rightS_spec.1 hr1
    obtain ⟨q1, q2, q3⟩ := rightS_spec.1 hr2
    have hS : ratCmpS (a1, a2) (b1, b2) = sgnS (a1 * b2) (b1 * a2) := by rw [ratCmpS, if_pos (by simp [hr1, hr2])]
    refine AWp.cutseq (I := fun (_u : Unit) => mkSt [(2, .pt 2 [] 0), (3, .pt 3 [] 0)] [(2, .box 23 2 (.dat (.st [1, 1] [.v (.int .i64 a1), .v (.int .i64 a2)]))), (3, .box 23 2 (.dat (.st [1, 1] [.v (.int .i64 b1), .v (.int .i64 b2)])))]) (Inv := fun _u => (a1 < 0 ∧ b1 < 0) ∨ (0 < a1 ∧ 0 < b1)) ?_ (fun _u hs => ?_)
    · -- ahead of the cut
      refine AWp.seq ?_
      refine AWp.regionN (fun _ => false) rfl ?_
      refine pP rfl rfl rfl ?_
      refine pI rfl rfl rfl ?_
      refine AOps.b tabOk rfl rfl rfl (fun c24 h24 => ?_)
      refine pP rfl rfl rfl ?_
      refine pI rfl rfl rfl ?_
      refine AOps.b tabOk rfl rfl rfl (fun c27 h27 => ?_)
      refine AOps.b tabOk rfl rfl rfl (fun c28 h28 => ?_)
      refine pB rfl rfl rfl ?_
      cases c28
      · -- c28 = false
        rw [← h24, ← h27] at h28
        have hd0 : (a1 < 0 ∧ b1 < 0) ∨ (0 ≤ a1 ∧ 0 ≤ b1) := by by_cases g1 : a1 < 0 <;> by_cases g2 : b1 < 0 <;> simp [g1, g2] at h28 <;> omega
        refine pP rfl rfl rfl ?_
        refine pI rfl rfl rfl ?_
        refine AOps.b tabOk rfl rfl rfl (fun c32 h32 => ?_)
        refine pB rfl rfl rfl ?_
        refine pB rfl rfl rfl ?_
        cases c32
        · -- c32 = false
          have h32n : a1 ≠ 0 := by simpa using h32
          refine pP rfl rfl rfl ?_
          refine pI rfl rfl rfl ?_
          refine AOps.b tabOk rfl rfl rfl (fun c37 h37 => ?_)
          refine pB rfl rfl rfl ?_
          refine AOps.done ?_
          refine AWp.cond rfl (fun e => ?_) (fun e => ?_)
          · subst e
            have h37n : b1 = 0 := by simpa using h37
            have hz : (a1 ≤ 0 ∧ 0 ≤ b1) ∨ (b1 ≤ 0 ∧ 0 ≤ a1) := by omega
            refine AWp.seq ?_
            refine AWp.seq ?_
            refine AWp.regionN (fun _ => false) rfl ?_
            refine pP rfl rfl rfl ?_
            refine pI rfl rfl rfl ?_
            refine pP rfl rfl rfl ?_
            refine pI rfl rfl rfl ?_
            refine AOps.b tabOk rfl rfl rfl (fun c43 h43 => ?_)
            refine AOps.done ?_
            refine AWp.cond rfl (fun e => ?_) (fun e => ?_)
            · subst e
              have h43n : a1 < b1 := by simpa using h43
              refine AWp.seq ?_
              refine AWp.regionN (fun _ => false) rfl ?_
              refine pI rfl rfl rfl ?_
              refine AOps.done ?_
              refine AWp.ret ?_
              exact ⟨_, rfl, by rw [hS, cmp_far hr1 hr2 hne hz, if_pos h43n]; rfl⟩
            · subst e
              have h43n : ¬ (a1 < b1) := by simpa using h43
              refine AWp.skip ?_
              refine AWp.seq ?_
              refine AWp.regionN (fun _ => false) rfl ?_
              refine pI rfl rfl rfl ?_
              refine AOps.done ?_
              refine AWp.ret ?_
              exact ⟨_, rfl, by rw [hS, cmp_far hr1 hr2 hne hz, if_neg h43n]; rfl⟩
          · subst e
            have h37n : b1 ≠ 0 := by simpa using h37
            have hs : (a1 < 0 ∧ b1 < 0) ∨ (0 < a1 ∧ 0 < b1) := by omega
            refine AWp.skip ?_
            exact ⟨(), hs, (Sub.list (fun i => i) rfl rfl ⟨rfl, rfl, trivial⟩ ⟨rfl, rfl, trivial⟩)⟩
        · -- c32 = true
          have h32n : a1 = 0 := by simpa using h32
          have hz : (a1 ≤ 0 ∧ 0 ≤ b1) ∨ (b1 ≤ 0 ∧ 0 ≤ a1) := by omega
          refine AOps.off rfl rfl ?_
          refine AOps.off rfl rfl ?_
          refine AOps.off rfl rfl ?_
          refine pB rfl rfl rfl ?_
          refine AOps.done ?_
          refine AWp.condT rfl ?_
          refine AWp.seq ?_
          refine AWp.seq ?_
          refine AWp.regionN (fun _ => false) rfl ?_
          refine pP rfl rfl rfl ?_
          refine pI rfl rfl rfl ?_
          refine pP rfl rfl rfl ?_
          refine pI rfl rfl rfl ?_
          refine AOps.b tabOk rfl rfl rfl (fun c43 h43 => ?_)
          refine AOps.done ?_
          refine AWp.cond rfl (fun e => ?_) (fun e => ?_)
          · subst e
            have h43n : a1 < b1 := by simpa using h43
            refine AWp.seq ?_
            refine AWp.regionN (fun _ => false) rfl ?_
            refine pI rfl rfl rfl ?_
            refine AOps.done ?_
            refine AWp.ret ?_
            exact ⟨_, rfl, by rw [hS, cmp_far hr1 hr2 hne hz, if_pos h43n]; rfl⟩
          · subst e
            have h43n : ¬ (a1 < b1) := by simpa using h43
            refine AWp.skip ?_
            refine AWp.seq ?_
            refine AWp.regionN (fun _ => false) rfl ?_
            refine pI rfl rfl rfl ?_
            refine AOps.done ?_
            refine AWp.ret ?_
            exact ⟨_, rfl, by rw [hS, cmp_far hr1 hr2 hne hz, if_neg h43n]; rfl⟩
      · -- c28 = true
        rw [← h24, ← h27] at h28
        have hz : (a1 ≤ 0 ∧ 0 ≤ b1) ∨ (b1 ≤ 0 ∧ 0 ≤ a1) := by by_cases g1 : a1 < 0 <;> by_cases g2 : b1 < 0 <;> simp [g1, g2] at h28 <;> omega
        refine AOps.off rfl rfl ?_
        refine AOps.off rfl rfl ?_
        refine AOps.off rfl rfl ?_
        refine pB rfl rfl rfl ?_
        refine pB rfl rfl rfl ?_
        refine AOps.off rfl rfl ?_
        refine AOps.off rfl rfl ?_
        refine AOps.off rfl rfl ?_
        refine pB rfl rfl rfl ?_
        refine AOps.done ?_
        refine AWp.condT rfl ?_
        refine AWp.seq ?_
        refine AWp.seq ?_
        refine AWp.regionN (fun _ => false) rfl ?_
        refine pP rfl rfl rfl ?_
        refine pI rfl rfl rfl ?_
        refine pP rfl rfl rfl ?_
        refine pI rfl rfl rfl ?_
        refine AOps.b tabOk rfl rfl rfl (fun c43 h43 => ?_)
        refine AOps.done ?_
        refine AWp.cond rfl (fun e => ?_) (fun e => ?_)
        · subst e
          have h43n : a1 < b1 := by simpa using h43
          refine AWp.seq ?_
          refine AWp.regionN (fun _ => false) rfl ?_
          refine pI rfl rfl rfl ?_
          refine AOps.done ?_
          refine AWp.ret ?_
          exact ⟨_, rfl, by rw [hS, cmp_far hr1 hr2 hne hz, if_pos h43n]; rfl⟩
        · subst e
          have h43n : ¬ (a1 < b1) := by simpa using h43
          refine AWp.skip ?_
          refine AWp.seq ?_
          refine AWp.regionN (fun _ => false) rfl ?_
          refine pI rfl rfl rfl ?_
          refine AOps.done ?_
          refine AWp.ret ?_
          exact ⟨_, rfl, by rw [hS, cmp_far hr1 hr2 hne hz, if_neg h43n]; rfl⟩
    · -- behind the cut
      refine AWp.seq ?_
      refine AWp.regionD (fun _ => false) mixed (by decide +kernel) rfl ?_
      refine pP rfl rfl rfl ?_
      refine pI rfl rfl rfl ?_
      refine AOps.call (rsize_fn a1 h1) rfl rfl rfl ⟨.inl rfl, trivial⟩ ?_
      refine pP rfl rfl rfl ?_
      refine pI rfl rfl rfl ?_
      refine AOps.i tabOk rfl rfl rfl (j := ((b2.natAbs : Nat) : Int)) (by unfold inI at h4; rw [wu (by omega) (by omega)]; omega) ?_
      refine AOps.call (mul64_fn a1.natAbs b2.natAbs (abs_lt h1) (abs_lt h4)) rfl rfl rfl ⟨.inl rfl, .inl rfl, trivial⟩ ?_
      refine pU rfl rfl rfl ?_
      refine pI rfl rfl rfl ?_
      refine pI rfl rfl rfl ?_
      refine pI rfl rfl rfl ?_
      refine pI rfl rfl rfl ?_
      refine AOps.done ?_
      refine AWp.seq ?_
      refine AWp.regionD (fun _ => false) mixed (by decide +kernel) rfl ?_
      refine pP rfl rfl rfl ?_
      refine pI rfl rfl rfl ?_
      refine AOps.call (rsize_fn b1 h3) rfl rfl rfl ⟨.inl rfl, trivial⟩ ?_
      refine pP rfl rfl rfl ?_
      refine pI rfl rfl rfl ?_
      refine AOps.i tabOk rfl rfl rfl (j := ((a2.natAbs : Nat) : Int)) (by unfold inI at h2; rw [wu (by omega) (by omega)]; omega) ?_
      refine AOps.call (mul64_fn b1.natAbs a2.natAbs (abs_lt h3) (abs_lt h2)) rfl rfl rfl ⟨.inl rfl, .inl rfl, trivial⟩ ?_
      refine pU rfl rfl rfl ?_
      refine pI rfl rfl rfl ?_
      refine pI rfl rfl rfl ?_
      refine pI rfl rfl rfl ?_
      refine pI rfl rfl rfl ?_
      refine AOps.done ?_
      refine AWp.seq ?_
      refine AWp.seq ?_
      refine AWp.regionN (fun _ => false) rfl ?_
      refine pI rfl rfl rfl ?_
      refine pI rfl rfl rfl ?_
      refine AOps.b tabOk rfl rfl rfl (fun c66 h66 => ?_)
      refine pB rfl rfl rfl ?_
      cases c66
      · -- c66 = false
        have ht0 : ¬ ((a1.natAbs * b2.natAbs) / 18446744073709551616 < (b1.natAbs * a2.natAbs) / 18446744073709551616) := by have := h66; simp only [decide_eq_false_iff_not] at this; omega
        refine pI rfl rfl rfl ?_
        refine pI rfl rfl rfl ?_
        refine AOps.b tabOk rfl rfl rfl (fun c70 h70 => ?_)
        refine pB rfl rfl rfl ?_
        cases c70
        · -- c70 = false
          have ht : decide ((a1.natAbs * b2.natAbs) < (b1.natAbs * a2.natAbs)) = false := by have := h70; simp only [beq_eq_false_iff_ne, ne_eq] at this; simp only [decide_eq_false_iff_not]; omega
          refine AOps.off rfl rfl ?_
          refine AOps.off rfl rfl ?_
          refine AOps.off rfl rfl ?_
          refine pB rfl rfl rfl ?_
          refine pB rfl rfl rfl ?_
          refine pP rfl rfl rfl ?_
          refine pI rfl rfl rfl ?_
          refine AOps.b tabOk rfl rfl rfl (fun c79 h79 => ?_)
          refine AOps.b tabOk rfl rfl rfl (fun c80 h80 => ?_)
          refine AOps.done ?_
          refine AWp.cond rfl (fun e => ?_) (fun e => ?_)
          · subst e
            refine AWp.seq ?_
            refine AWp.regionN (fun _ => false) rfl ?_
            refine pI rfl rfl rfl ?_
            refine AOps.done ?_
            refine AWp.ret ?_
            exact ⟨_, rfl, by rw [hS, cmp_near hr1 hr2 hne hs, ht, h79, h80]; rfl⟩
          · subst e
            refine AWp.skip ?_
            refine AWp.seq ?_
            refine AWp.regionN (fun _ => false) rfl ?_
            refine pI rfl rfl rfl ?_
            refine AOps.done ?_
            refine AWp.ret ?_
            exact ⟨_, rfl, by rw [hS, cmp_near hr1 hr2 hne hs, ht, h79, h80]; rfl⟩
        · -- c70 = true
          have ht1 : (a1.natAbs * b2.natAbs) / 18446744073709551616 = (b1.natAbs * a2.natAbs) / 18446744073709551616 := by have := h70; simp only [beq_iff_eq] at this; omega
          refine pI rfl rfl rfl ?_
          refine pI rfl rfl rfl ?_
          refine AOps.b tabOk rfl rfl rfl (fun c74 h74 => ?_)
          have ht : decide ((a1.natAbs * b2.natAbs) < (b1.natAbs * a2.natAbs)) = c74 := by rw [← h74]; rw [decide_eq_decide]; omega
          refine pB rfl rfl rfl ?_
          refine pB rfl rfl rfl ?_
          refine pP rfl rfl rfl ?_
          refine pI rfl rfl rfl ?_
          refine AOps.b tabOk rfl rfl rfl (fun c79 h79 => ?_)
          refine AOps.b tabOk rfl rfl rfl (fun c80 h80 => ?_)
          refine AOps.done ?_
          refine AWp.cond rfl (fun e => ?_) (fun e => ?_)
          · subst e
            refine AWp.seq ?_
            refine AWp.regionN (fun _ => false) rfl ?_
            refine pI rfl rfl rfl ?_
            refine AOps.done ?_
            refine AWp.ret ?_
            exact ⟨_, rfl, by rw [hS, cmp_near hr1 hr2 hne hs, ht, h79, h80]; rfl⟩
          · subst e
            refine AWp.skip ?_
            refine AWp.seq ?_
            refine AWp.regionN (fun _ => false) rfl ?_
            refine pI rfl rfl rfl ?_
            refine AOps.done ?_
            refine AWp.ret ?_
            exact ⟨_, rfl, by rw [hS, cmp_near hr1 hr2 hne hs, ht, h79, h80]; rfl⟩
      · -- c66 = true
        have ht : decide ((a1.natAbs * b2.natAbs) < (b1.natAbs * a2.natAbs)) = true := by have := h66; simp only [decide_eq_true_eq] at this ⊢; omega
        refine AOps.off rfl rfl ?_
        refine AOps.off rfl rfl ?_
        refine AOps.off rfl rfl ?_
        refine AOps.off rfl rfl ?_
        refine AOps.off rfl rfl ?_
        refine AOps.off rfl rfl ?_
        refine AOps.off rfl rfl ?_
        refine AOps.off rfl rfl ?_
        refine pB rfl rfl rfl ?_
        refine pP rfl rfl rfl ?_
        refine pI rfl rfl rfl ?_
        refine AOps.b tabOk rfl rfl rfl (fun c79 h79 => ?_)
        refine AOps.b tabOk rfl rfl rfl (fun c80 h80 => ?_)
        refine AOps.done ?_
        refine AWp.cond rfl (fun e => ?_) (fun e => ?_)
        · subst e
          refine AWp.seq ?_
          refine AWp.regionN (fun _ => false) rfl ?_
          refine pI rfl rfl rfl ?_
          refine AOps.done ?_
          refine AWp.ret ?_
          exact ⟨_, rfl, by rw [hS, cmp_near hr1 hr2 hne hs, ht, h79, h80]; rfl⟩
        · subst e
          refine AWp.skip ?_
          refine AWp.seq ?_
          refine AWp.regionN (fun _ => false) rfl ?_
          refine pI rfl rfl rfl ?_
          refine AOps.done ?_
          refine AWp.ret ?_
          exact ⟨_, rfl, by rw [hS, cmp_near hr1 hr2 hne hs, ht, h79, h80]; rfl⟩

theorem num_fn (n : Int) (h : inI n) : AFn prog 52 [.v (.int .i64 n)] (numD (decide (n < 0)) n.natAbs) false := by
  refine AFn.intro' (L := [(0, .dat (.v (.int .i64 n)))]) tabOk Try.func52 rfl rfl Try.ntmps52 rfl rfl rfl ?_
  refine AWp.seq ?_
  refine AWp.regionN (fun _ => false) rfl ?_
  refine AOps.alloc tabOk rfl rfl rfl rfl rfl ?_
  refine AOps.done ?_
  refine AWp.seq ?_
  refine AWp.regionN (fun o => writes o) rfl ?_
  refine pI rfl rfl rfl ?_
  refine AOps.b tabOk rfl rfl rfl (fun c4 h4 => ?_)
  refine pI rfl rfl rfl ?_
  refine AOps.call (size_fn n h) rfl rfl rfl ⟨.inl rfl, trivial⟩ ?_
  refine pT rfl rfl rfl ?_
  refine AOps.store tabOk (v := .dat (.st _ _)) rfl rfl rfl rfl rfl rfl rfl rfl rfl rfl rfl rfl rfl ?_
  refine AOps.done ?_
  refine AWp.ret ?_
  exact ⟨_, rfl, by rw [← h4]; rfl⟩

theorem sign_fn (s : Bool) (m : Nat) : AFn prog 68 [numD s m] (.v (.int .i64 (sgS s m))) false := by
  refine AFn.intro' (L := [(0, .dat (numD s m))]) tabOk Try.func68 rfl rfl Try.ntmps68 rfl rfl rfl ?_
  refine AWp.seq ?_
  refine AWp.regionN (fun _ => false) rfl ?_
  refine AOps.box (v := .dat (.st _ _)) rfl rfl rfl rfl rfl rfl ?_
  refine pI rfl rfl rfl ?_
  refine AOps.done ?_
  refine AWp.seq ?_
  refine AWp.seq ?_
  refine AWp.regionN (fun _ => false) rfl ?_
  refine pP rfl rfl rfl ?_
  refine pS rfl rfl rfl ?_
  refine pI rfl rfl rfl ?_
  refine AOps.b tabOk rfl rfl rfl (fun c6 h6 => ?_)
  refine AOps.done ?_
  refine AWp.cond rfl (fun e => ?_) (fun e => ?_)
  · subst e
    have h0 : m = 0 := by have := h6; simp [bl] at this; exact dig_nil.1 this
    refine AWp.seq ?_
    refine AWp.regionN (fun _ => false) rfl ?_
    refine pI rfl rfl rfl ?_
    refine AOps.done ?_
    refine AWp.ret ?_
    exact ⟨_, rfl, by simp [fin, sgS, h0]⟩
  · subst e
    have h0 : m ≠ 0 := by rintro rfl; simp [bl, dig_zero] at h6
    refine AWp.skip ?_
    refine AWp.seq ?_
    refine AWp.seq ?_
    refine AWp.regionN (fun _ => false) rfl ?_
    refine pP rfl rfl rfl ?_
    refine pB rfl rfl rfl ?_
    refine AOps.done ?_
    refine AWp.cond rfl (fun e => ?_) (fun e => ?_)
    · subst e
      refine AWp.seq ?_
      refine AWp.regionN (fun _ => false) rfl ?_
      refine pI rfl rfl rfl ?_
      refine AOps.done ?_
      refine AWp.ret ?_
      exact ⟨_, rfl, by simp [fin, sgS, h0]⟩
    · subst e
      refine AWp.skip ?_
      refine AWp.seq ?_
      refine AWp.regionN (fun _ => false) rfl ?_
      refine pI rfl rfl rfl ?_
      refine AOps.done ?_
      refine AWp.ret ?_
      exact ⟨_, rfl, by simp [fin, sgS, h0]⟩

theorem product_fn (s t : Bool) (m n : Nat) (hm : (dig m).length ≤ 2) (hn : (dig n).length ≤ 2) : AFn prog 51 [numD s m, numD t n] (numD (decide (m * n ≠ 0) && (s != t)) (m * n)) false := by
  refine AFn.intro' (L := [(0, .dat (numD s m)), (1, .dat (numD t n))]) tabOk Try.func51 rfl rfl Try.ntmps51 rfl rfl rfl ?_
  refine AWp.seq ?_
  refine AWp.regionN (fun _ => false) rfl ?_
  refine AOps.box (v := .dat (.st _ _)) rfl rfl rfl rfl rfl rfl ?_
  refine AOps.box (v := .dat (.st _ _)) rfl rfl rfl rfl rfl rfl ?_
  refine AOps.alloc tabOk rfl rfl rfl rfl rfl ?_
  refine AOps.done ?_
  refine AWp.seq ?_
  refine AWp.regionN (fun _ => false) rfl ?_
  refine pP rfl rfl rfl ?_
  refine pS rfl rfl rfl ?_
  refine pP rfl rfl rfl ?_
  refine pS rfl rfl rfl ?_
  refine AOps.call (by_fn m n (by omega) (by omega)) rfl rfl rfl ⟨.inl rfl, .inl rfl, trivial⟩ ?_
  refine pS rfl rfl rfl ?_
  refine AOps.done ?_
  refine AWp.seq ?_
  refine AWp.seq ?_
  refine AWp.regionN (fun _ => false) rfl ?_
  refine pS rfl rfl rfl ?_
  refine pI rfl rfl rfl ?_
  refine AOps.b tabOk rfl rfl rfl (fun c13 h13 => ?_)
  refine AOps.done ?_
  refine AWp.cond rfl (fun e => ?_) (fun e => ?_)
  · subst e
    have h0 : m * n = 0 := by have := h13; simp only [bl_length, beq_iff_eq] at this; exact dig_nil.1 (List.eq_nil_of_length_eq_zero (by omega))
    refine AWp.seq ?_
    refine AWp.regionN (fun o => writes o) rfl ?_
    refine pT rfl rfl rfl ?_
    refine AOps.store tabOk (v := .dat (.st _ _)) rfl rfl rfl rfl rfl rfl rfl rfl rfl rfl rfl rfl rfl ?_
    refine AOps.done ?_
    refine AWp.ret ?_
    exact ⟨_, rfl, by rw [h0]; simp [numD, dig_zero, bl]; rfl⟩
  · subst e
    have h0 : m * n ≠ 0 := by intro h; rw [h, dig_zero] at h13; simp [bl] at h13
    refine AWp.skip ?_
    refine AWp.seq ?_
    refine AWp.regionN (fun o => writes o) rfl ?_
    refine pP rfl rfl rfl ?_
    refine pB rfl rfl rfl ?_
    refine pP rfl rfl rfl ?_
    refine pB rfl rfl rfl ?_
    refine AOps.b tabOk rfl rfl rfl (fun c19 h19 => ?_)
    refine pS rfl rfl rfl ?_
    refine pP rfl rfl rfl ?_
    refine pI rfl rfl rfl ?_
    refine pP rfl rfl rfl ?_
    refine pI rfl rfl rfl ?_
    refine AOps.i tabOk rfl rfl rfl (j := 0) rfl ?_
    refine pT rfl rfl rfl ?_
    refine AOps.store tabOk (v := .dat (.st _ _)) rfl rfl rfl rfl rfl rfl rfl rfl rfl rfl rfl rfl rfl ?_
    refine AOps.done ?_
    refine AWp.ret ?_
    exact ⟨_, rfl, by rw [← h19, show decide (m * n ≠ 0) = true by simpa using h0]; rfl⟩

theorem level_fn (s t : Bool) (m n : Nat) : AFn prog 70 [numD s m, numD t n] (.tup [numD s m, numD t n]) false := by
  refine AFn.intro' (L := [(0, .dat (numD s m)), (1, .dat (numD t n))]) tabOk Try.func70 rfl rfl Try.ntmps70 rfl rfl rfl ?_
  refine AWp.seq ?_
  refine AWp.regionN (fun _ => false) rfl ?_
  refine AOps.box (v := .dat (.st _ _)) rfl rfl rfl rfl rfl rfl ?_
  refine AOps.box (v := .dat (.st _ _)) rfl rfl rfl rfl rfl rfl ?_
  refine AOps.alloc tabOk rfl rfl rfl rfl rfl ?_
  refine AOps.alloc tabOk rfl rfl rfl rfl rfl ?_
  refine AOps.done ?_
  refine AWp.seq ?_
  refine AWp.seq ?_
  refine AWp.regionN (fun _ => false) rfl ?_
  refine pP rfl rfl rfl ?_
  refine pI rfl rfl rfl ?_
  refine pP rfl rfl rfl ?_
  refine pI rfl rfl rfl ?_
  refine AOps.b tabOk rfl rfl rfl (fun c10 h10 => ?_)
  refine AOps.done ?_
  refine AWp.cond rfl (fun e => ?_) (fun e => ?_)
  · subst e
    simp at h10
  · subst e
    refine AWp.skip ?_
    refine AWp.seq ?_
    refine AWp.seq ?_
    refine AWp.regionN (fun _ => false) rfl ?_
    refine pP rfl rfl rfl ?_
    refine pI rfl rfl rfl ?_
    refine pP rfl rfl rfl ?_
    refine pI rfl rfl rfl ?_
    refine AOps.b tabOk rfl rfl rfl (fun c27 h27 => ?_)
    refine AOps.done ?_
    refine AWp.cond rfl (fun e => ?_) (fun e => ?_)
    · subst e
      simp at h27
    · subst e
      refine AWp.skip ?_
      refine AWp.seq ?_
      refine AWp.regionE [(2, 2), (3, 3), (4, 4), (5, 5)] (fun o => writes o) mixed (by decide +kernel) rfl (Fix.cons (fun _ h => h) (Fix.cons (fun _ h => h) (Fix.cons (fun _ h => h) (Fix.cons (fun _ h => h) Fix.nil)))) ?_
      refine pT rfl rfl rfl ?_
      refine pT rfl rfl rfl ?_
      refine AOps.store tabOk (v := .dat (.st _ _)) rfl rfl rfl rfl rfl rfl rfl rfl rfl rfl rfl rfl rfl ?_
      refine AOps.store tabOk (v := .dat (.st _ _)) rfl rfl rfl rfl rfl rfl rfl rfl rfl rfl rfl rfl rfl ?_
      refine AOps.done ?_
      refine AWp.ret ?_
      exact ⟨_, rfl, rfl⟩

theorem order_fn (s t : Bool) (m n : Nat) (hm : (dig m).length ≤ 100000) (hn : (dig n).length ≤ 100000) (hs : m = 0 → s = false) (ht : n = 0 → t = false) : AFn prog 50 [numD s m, numD t n] (.v (.int .i64 (sgnS (valS s m) (valS t n)))) false := by
  have B1 := blen_dig_len hm
  have B2 := blen_dig_len hn
  refine AFn.intro' (L := [(0, .dat (numD s m)), (1, .dat (numD t n))]) tabOk Try.func50 rfl rfl Try.ntmps50 rfl rfl rfl ?_
  refine AWp.seq ?_
  refine AWp.regionN (fun _ => false) rfl ?_
  refine AOps.box (v := .dat (.st _ _)) rfl rfl rfl rfl rfl rfl ?_
  refine AOps.box (v := .dat (.st _ _)) rfl rfl rfl rfl rfl rfl ?_
  refine pI rfl rfl rfl ?_
  refine AOps.done ?_
  refine AWp.seq ?_
  refine AWp.seq ?_
  refine AWp.regionD (fun _ => false) mixed (by decide +kernel) rfl ?_
  refine pT rfl rfl rfl ?_
  refine AOps.call (sign_fn s m) rfl rfl rfl ⟨.inl rfl, trivial⟩ ?_
  refine pT rfl rfl rfl ?_
  refine AOps.call (sign_fn t n) rfl rfl rfl ⟨.inl rfl, trivial⟩ ?_
  refine AOps.b tabOk rfl rfl rfl (fun c14 h14 => ?_)
  refine AOps.done ?_
  refine AWp.cond rfl (fun e => ?_) (fun e => ?_)
  · subst e
    have hd : sgS s m ≠ sgS t n := by simpa using h14
    refine AWp.seq ?_
    refine AWp.seq ?_
    refine AWp.regionD (fun _ => false) mixed (by decide +kernel) rfl ?_
    refine pT rfl rfl rfl ?_
    refine AOps.call (sign_fn s m) rfl rfl rfl ⟨.inl rfl, trivial⟩ ?_
    refine pT rfl rfl rfl ?_
    refine AOps.call (sign_fn t n) rfl rfl rfl ⟨.inl rfl, trivial⟩ ?_
    refine AOps.b tabOk rfl rfl rfl (fun c19 h19 => ?_)
    refine AOps.done ?_
    refine AWp.cond rfl (fun e => ?_) (fun e => ?_)
    · subst e
      have hl : sgS s m < sgS t n := by simpa using h19
      refine AWp.seq ?_
      refine AWp.regionN (fun _ => false) rfl ?_
      refine pI rfl rfl rfl ?_
      refine AOps.done ?_
      refine AWp.ret ?_
      exact ⟨_, rfl, by rw [ord_diff hs ht hd, if_pos hl]; rfl⟩
    · subst e
      have hl : ¬ (sgS s m < sgS t n) := by simpa using h19
      refine AWp.skip ?_
      refine AWp.seq ?_
      refine AWp.regionN (fun _ => false) rfl ?_
      refine pI rfl rfl rfl ?_
      refine AOps.done ?_
      refine AWp.ret ?_
      exact ⟨_, rfl, by rw [ord_diff hs ht hd, if_neg hl]; rfl⟩
  · subst e
    have hd : sgS s m = sgS t n := by simpa using h14
    refine AWp.skip ?_
    refine AWp.seq ?_
    refine AWp.seq ?_
    refine AWp.regionN (fun _ => false) rfl ?_
    refine pT rfl rfl rfl ?_
    refine AOps.call (sign_fn s m) rfl rfl rfl ⟨.inl rfl, trivial⟩ ?_
    refine AOps.b tabOk rfl rfl rfl (fun c22 h22 => ?_)
    refine AOps.done ?_
    refine AWp.cond rfl (fun e => ?_) (fun e => ?_)
    · subst e
      have hz : sgS s m = 0 := by simpa using h22
      refine AWp.seq ?_
      refine AWp.regionN (fun _ => false) rfl ?_
      refine pI rfl rfl rfl ?_
      refine AOps.done ?_
      refine AWp.ret ?_
      exact ⟨_, rfl, by rw [ord_zero hd hz]; rfl⟩
    · subst e
      have hz : sgS s m ≠ 0 := by simpa using h22
      refine AWp.skip ?_
      refine AWp.seq ?_
      refine AWp.regionD (fun _ => false) mixed (by decide +kernel) rfl ?_
      refine pP rfl rfl rfl ?_
      refine pS rfl rfl rfl ?_
      refine AOps.call (bits_fn m (by omega)) rfl rfl rfl ⟨.inl rfl, trivial⟩ ?_
      refine pP rfl rfl rfl ?_
      refine pI rfl rfl rfl ?_
      refine AOps.i tabOk rfl rfl rfl (j := ((blen m : Nat) : Int)) (by rw [wi (by omega) (by omega)]; omega) ?_
      refine pI rfl rfl rfl ?_
      refine AOps.done ?_
      refine AWp.seq ?_
      refine AWp.regionD (fun _ => false) mixed (by decide +kernel) rfl ?_
      refine pP rfl rfl rfl ?_
      refine pS rfl rfl rfl ?_
      refine AOps.call (bits_fn n (by omega)) rfl rfl rfl ⟨.inl rfl, trivial⟩ ?_
      refine pP rfl rfl rfl ?_
      refine pI rfl rfl rfl ?_
      refine AOps.i tabOk rfl rfl rfl (j := ((blen n : Nat) : Int)) (by rw [wi (by omega) (by omega)]; omega) ?_
      refine pI rfl rfl rfl ?_
      refine AOps.done ?_
      refine AWp.seq ?_
      refine AWp.regionN (fun _ => false) rfl ?_
      refine pI rfl rfl rfl ?_
      refine AOps.done ?_
      refine AWp.cutseq (I := fun (x : Int) => mkSt [(2, .pt 2 [] 0), (7, .dat (.v (.int .i64 x)))] [(2, .box 73 3 (.dat (numD s m)))]) (Inv := fun x => x = cmpS m n) ?_ (fun x hx => ?_)
      · -- ahead of the cut
        refine AWp.seq ?_
        refine AWp.regionN (fun _ => false) rfl ?_
        refine pI rfl rfl rfl ?_
        refine pI rfl rfl rfl ?_
        refine AOps.b tabOk rfl rfl rfl (fun c37 h37 => ?_)
        refine AOps.done ?_
        refine AWp.cond rfl (fun e => ?_) (fun e => ?_)
        · subst e
          have hb : blen m < blen n := by have := h37; simp at this; omega
          refine AWp.regionN (fun _ => false) rfl ?_
          refine pI rfl rfl rfl ?_
          refine AOps.done ?_
          exact ⟨-1, by have := blen_cmp hb; simp [cmpS, this], (Sub.list (fun i => i) rfl rfl ⟨rfl, rfl, trivial⟩ ⟨rfl, trivial⟩)⟩
        · subst e
          refine AWp.seq ?_
          refine AWp.regionN (fun _ => false) rfl ?_
          refine pI rfl rfl rfl ?_
          refine pI rfl rfl rfl ?_
          refine AOps.b tabOk rfl rfl rfl (fun c40 h40 => ?_)
          refine AOps.done ?_
          refine AWp.cond rfl (fun e => ?_) (fun e => ?_)
          · subst e
            have hb : blen n < blen m := by have := h40; simp at this; omega
            refine AWp.regionN (fun _ => false) rfl ?_
            refine pI rfl rfl rfl ?_
            refine AOps.done ?_
            exact ⟨1, by have := blen_cmp hb; simp [cmpS, this, Nat.lt_asymm this], (Sub.list (fun i => i) rfl rfl ⟨rfl, rfl, trivial⟩ ⟨rfl, trivial⟩)⟩
          · subst e
            refine AWp.seq ?_
            refine AWp.regionN (fun o => writes o) rfl ?_
            refine pT rfl rfl rfl ?_
            refine pT rfl rfl rfl ?_
            refine AOps.call (level_fn s t m n) rfl rfl rfl ⟨.inl rfl, .inl rfl, trivial⟩ ?_
            refine pU rfl rfl rfl ?_
            refine pT rfl rfl rfl ?_
            refine pT rfl rfl rfl ?_
            refine AOps.alloc tabOk rfl rfl rfl rfl rfl ?_
            refine AOps.alloc tabOk rfl rfl rfl rfl rfl ?_
            refine AOps.store tabOk (v := .dat (.st _ _)) rfl rfl rfl rfl rfl rfl rfl rfl rfl rfl rfl rfl rfl ?_
            refine AOps.store tabOk (v := .dat (.st _ _)) rfl rfl rfl rfl rfl rfl rfl rfl rfl rfl rfl rfl rfl ?_
            refine AOps.done ?_
            refine AWp.regionN (fun _ => false) rfl ?_
            refine pP rfl rfl rfl ?_
            refine pS rfl rfl rfl ?_
            refine pP rfl rfl rfl ?_
            refine pS rfl rfl rfl ?_
            refine AOps.call (cmp_fn m n (by omega) (by omega)) rfl rfl rfl ⟨.inl rfl, .inl rfl, trivial⟩ ?_
            refine pI rfl rfl rfl ?_
            refine AOps.done ?_
            exact ⟨cmpS m n, rfl, (Sub.list (fun i => i) rfl rfl ⟨rfl, rfl, trivial⟩ ⟨rfl, trivial⟩)⟩
      · -- behind the cut
        refine AWp.seq ?_
        refine AWp.seq ?_
        refine AWp.regionN (fun _ => false) rfl ?_
        refine pP rfl rfl rfl ?_
        refine pB rfl rfl rfl ?_
        refine AOps.done ?_
        refine AWp.cond rfl (fun e => ?_) (fun e => ?_)
        · subst e
          refine AWp.seq ?_
          refine AWp.regionN (fun _ => false) rfl ?_
          refine pI rfl rfl rfl ?_
          refine AOps.i tabOk rfl rfl rfl (j := -x) (by rw [hx]; have := cmpS_bd m n; rw [wi (by omega) (by omega)]; omega) ?_
          refine pI rfl rfl rfl ?_
          refine AOps.done ?_
          refine AWp.ret ?_
          exact ⟨_, rfl, by rw [ord_same hd hz, hx]; rfl⟩
        · subst e
          refine AWp.skip ?_
          refine AWp.seq ?_
          refine AWp.regionN (fun _ => false) rfl ?_
          refine pI rfl rfl rfl ?_
          refine pI rfl rfl rfl ?_
          refine AOps.done ?_
          refine AWp.ret ?_
          exact ⟨_, rfl, by rw [ord_same hd hz, hx]; rfl⟩

theorem refcmp_fn (a1 a2 b1 b2 : Int) (h1 : inI a1) (h2 : inI a2) (h3 : inI b1) (h4 : inI b2) : AFn prog 21 [.st [1, 1] [.v (.int .i64 a1), .v (.int .i64 a2)], .st [1, 1] [.v (.int .i64 b1), .v (.int .i64 b2)]] (.v (.int .i64 (ratCmpS (a1, a2) (b1, b2)))) false := by
  have l1 := len64 (abs_lt h1)
  have l2 := len64 (abs_lt h2)
  have l3 := len64 (abs_lt h3)
  have l4 := len64 (abs_lt h4)
  refine AFn.intro' (L := [(0, .dat (.st [1, 1] [.v (.int .i64 a1), .v (.int .i64 a2)])), (1, .dat (.st [1, 1] [.v (.int .i64 b1), .v (.int .i64 b2)]))]) tabOk Try.func21 rfl rfl Try.ntmps21 rfl rfl rfl ?_
  refine AWp.seq ?_
  refine AWp.regionN (fun _ => false) rfl ?_
  refine AOps.box (v := .dat (.st _ _)) rfl rfl rfl rfl rfl rfl ?_
  refine AOps.box (v := .dat (.st _ _)) rfl rfl rfl rfl rfl rfl ?_
  refine pI rfl rfl rfl ?_
  refine AOps.done ?_
  refine AWp.seq ?_
  refine AWp.seq ?_
  refine AWp.regionN (fun _ => false) rfl ?_
  refine pT rfl rfl rfl ?_
  refine AOps.call (refright_fn a1 a2 h1 h2) rfl rfl rfl ⟨.inl rfl, trivial⟩ ?_
  refine AOps.b tabOk rfl rfl rfl (fun c7 h7 => ?_)
  refine pB rfl rfl rfl ?_
  cases c7
  · -- c7 = false
    have hr1 : rightS a1 a2 = true := by simpa using h7
    refine pT rfl rfl rfl ?_
    refine AOps.call (refright_fn b1 b2 h3 h4) rfl rfl rfl ⟨.inl rfl, trivial⟩ ?_
    refine AOps.b tabOk rfl rfl rfl (fun c11 h11 => ?_)
    refine pB rfl rfl rfl ?_
    refine AOps.done ?_
    refine AWp.cond rfl (fun e => ?_) (fun e => ?_)
    · subst e
      have hr : rightS b1 b2 = false := by simpa using h11
      refine AWp.seq ?_
      refine AWp.regionN (fun _ => false) rfl ?_
      refine pI rfl rfl rfl ?_
      refine AOps.done ?_
      refine AWp.ret ?_
      exact ⟨_, rfl, by rw [ratCmpS, if_neg (by simp [hr])]; rfl⟩
    · subst e
      have hr2 : rightS b1 b2 = true := by simpa using h11
      obtain ⟨p1, p2, p3⟩ := rightS_spec.1 hr1
      obtain ⟨q1, q2, q3⟩ := rightS_spec.1 hr2
      refine AWp.skip ?_
      refine AWp.seq ?_
      refine AWp.regionD (fun _ => false) mixed (by decide +kernel) rfl ?_
      refine pP rfl rfl rfl ?_
      refine pI rfl rfl rfl ?_
      refine AOps.call (num_fn a1 h1) rfl rfl rfl ⟨.inl rfl, trivial⟩ ?_
      refine pP rfl rfl rfl ?_
      refine pI rfl rfl rfl ?_
      refine AOps.call (num_fn b2 h4) rfl rfl rfl ⟨.inl rfl, trivial⟩ ?_
      refine AOps.call (product_fn _ _ a1.natAbs b2.natAbs l1 l4) rfl rfl rfl ⟨.inl rfl, .inl rfl, trivial⟩ ?_
      refine pP rfl rfl rfl ?_
      refine pI rfl rfl rfl ?_
      refine AOps.call (num_fn b1 h3) rfl rfl rfl ⟨.inl rfl, trivial⟩ ?_
      refine pP rfl rfl rfl ?_
      refine pI rfl rfl rfl ?_
      refine AOps.call (num_fn a2 h2) rfl rfl rfl ⟨.inl rfl, trivial⟩ ?_
      refine AOps.call (product_fn _ _ b1.natAbs a2.natAbs l3 l2) rfl rfl rfl ⟨.inl rfl, .inl rfl, trivial⟩ ?_
      refine AOps.call (order_fn _ _ (a1.natAbs * b2.natAbs) (b1.natAbs * a2.natAbs) (mul_len l1 l4) (mul_len l3 l2) (fun h => by simp [h]) (fun h => by simp [h])) rfl rfl rfl ⟨.inl rfl, .inl rfl, trivial⟩ ?_
      refine pI rfl rfl rfl ?_
      refine AOps.done ?_
      refine AWp.ret ?_
      exact ⟨_, rfl, by rw [ratCmpS, if_pos (by simp [hr1, hr2])]; simp only [fin]; rw [prod_val q1, prod_val p1]⟩
  · -- c7 = true
    have hr : rightS a1 a2 = false := by simpa using h7
    refine AOps.off rfl rfl ?_
    refine AOps.off rfl rfl ?_
    refine AOps.off rfl rfl ?_
    refine pB rfl rfl rfl ?_
    refine AOps.done ?_
    refine AWp.condT rfl ?_
    refine AWp.seq ?_
    refine AWp.regionN (fun _ => false) rfl ?_
    refine pI rfl rfl rfl ?_
    refine AOps.done ?_
    refine AWp.ret ?_
    exact ⟨_, rfl, by rw [ratCmpS, if_neg (by simp [hr])]; rfl⟩

theorem refpow_fn (a1 a2 n : Int) (h1 : inI a1) (h2 : inI a2) (hn : inI n) : AFn prog 19 [.st [1, 1] [.v (.int .i64 a1), .v (.int .i64 a2)], .v (.int .i64 n)] (ansD (powS (a1, a2) n)) false := by
  have l1 := len64 (abs_lt h1)
  have l2 := len64 (abs_lt h2)
  refine AFn.intro' (L := [(0, .dat (.st [1, 1] [.v (.int .i64 a1), .v (.int .i64 a2)])), (1, .dat (.v (.int .i64 n)))]) tabOk Try.func19 rfl rfl Try.ntmps19 rfl rfl rfl ?_
  refine AWp.seq ?_
  refine AWp.regionN (fun _ => false) rfl ?_
  refine AOps.box (v := .dat (.st _ _)) rfl rfl rfl rfl rfl rfl ?_
  refine AOps.alloc tabOk rfl rfl rfl rfl rfl ?_
  refine pI rfl rfl rfl ?_
  refine AOps.done ?_
  refine AWp.seq ?_
  refine AWp.seq ?_
  refine AWp.regionN (fun _ => false) rfl ?_
  refine pT rfl rfl rfl ?_
  refine AOps.call (refright_fn a1 a2 h1 h2) rfl rfl rfl ⟨.inl rfl, trivial⟩ ?_
  refine AOps.b tabOk rfl rfl rfl (fun c8 h8 => ?_)
  refine pB rfl rfl rfl ?_
  cases c8
  · -- c8 = false
    have hr1 : rightS a1 a2 = true := by simpa using h8
    obtain ⟨p1, p2, p3⟩ := rightS_spec.1 hr1
    refine pI rfl rfl rfl ?_
    refine AOps.b tabOk rfl rfl rfl (fun c11 h11 => ?_)
    refine pB rfl rfl rfl ?_
    refine pB rfl rfl rfl ?_
    cases c11
    · -- c11 = false
      have hb : -64 ≤ n := by have := h11; simp at this; omega
      refine pI rfl rfl rfl ?_
      refine AOps.b tabOk rfl rfl rfl (fun c15 h15 => ?_)
      refine pB rfl rfl rfl ?_
      refine AOps.done ?_
      refine AWp.cond rfl (fun e => ?_) (fun e => ?_)
      · subst e
        have hc : ¬ (n ≤ 64) := by have := h15; simp at this; omega
        refine AWp.seq ?_
        refine AWp.regionN (fun o => writes o) rfl ?_
        refine pT rfl rfl rfl ?_
        refine AOps.store tabOk (v := .dat (.st _ _)) rfl rfl rfl rfl rfl rfl rfl rfl rfl rfl rfl rfl rfl ?_
        refine pI rfl rfl rfl ?_
        refine AOps.done ?_
        refine AWp.ret ?_
        exact ⟨_, rfl, by rw [powS, if_neg (by simp [hc])]; rfl⟩
      · subst e
        have hc : n ≤ 64 := by have := h15; simp at this; omega
        have hS := show powS (a1, a2) n = _ from by rw [powS, if_pos (by simp [hr1, hb, hc])]
        refine AWp.skip ?_
        refine AWp.seq ?_
        refine AWp.seq ?_
        refine AWp.regionN (fun _ => false) rfl ?_
        refine pI rfl rfl rfl ?_
        refine AOps.b tabOk rfl rfl rfl (fun c19 h19 => ?_)
        refine AOps.done ?_
        refine AWp.cond rfl (fun e => ?_) (fun e => ?_)
        · subst e
          have hneg : n < 0 := by simpa using h19
          refine AWp.seq ?_
          refine AWp.seq ?_
          refine AWp.regionN (fun _ => false) rfl ?_
          refine pP rfl rfl rfl ?_
          refine pI rfl rfl rfl ?_
          refine AOps.b tabOk rfl rfl rfl (fun c22 h22 => ?_)
          refine AOps.done ?_
          refine AWp.cond rfl (fun e => ?_) (fun e => ?_)
          · subst e
            have h0 : a1 = 0 := by simpa using h22
            refine AWp.seq ?_
            refine AWp.regionN (fun o => writes o) rfl ?_
            refine pT rfl rfl rfl ?_
            refine AOps.store tabOk (v := .dat (.st _ _)) rfl rfl rfl rfl rfl rfl rfl rfl rfl rfl rfl rfl rfl ?_
            refine pI rfl rfl rfl ?_
            refine AOps.done ?_
            refine AWp.ret ?_
            exact ⟨_, rfl, by rw [hS, if_pos hneg, if_pos h0]; rfl⟩
          · subst e
            have h0 : a1 ≠ 0 := by simpa using h22
            refine AWp.skip ?_
            refine AWp.seq ?_
            refine AWp.regionD (fun o => writes o) mixed (by decide +kernel) rfl ?_
            refine pP rfl rfl rfl ?_
            refine pI rfl rfl rfl ?_
            refine AOps.b tabOk rfl rfl rfl (fun c26 h26 => ?_)
            refine pB rfl rfl rfl ?_
            cases c26
            · -- c26 = false
              refine AOps.off rfl rfl ?_
              refine AOps.off rfl rfl ?_
              refine AOps.off rfl rfl ?_
              refine pB rfl rfl rfl ?_
              refine pP rfl rfl rfl ?_
              refine pI rfl rfl rfl ?_
              refine AOps.call (size_fn a2 h2) rfl rfl rfl ⟨.inl rfl, trivial⟩ ?_
              refine pI rfl rfl rfl ?_
              refine AOps.i tabOk rfl rfl rfl (j := ((n.natAbs : Nat) : Int)) (by rw [wi (by omega) (by omega)]; omega) ?_
              refine AOps.call (power_fn a2.natAbs n.natAbs l2 (by omega)) rfl rfl rfl ⟨.inl rfl, .inl rfl, trivial⟩ ?_
              refine pP rfl rfl rfl ?_
              refine pI rfl rfl rfl ?_
              refine AOps.call (size_fn a1 h1) rfl rfl rfl ⟨.inl rfl, trivial⟩ ?_
              refine pI rfl rfl rfl ?_
              refine AOps.i tabOk rfl rfl rfl (j := ((n.natAbs : Nat) : Int)) (by rw [wi (by omega) (by omega)]; omega) ?_
              refine AOps.call (power_fn a1.natAbs n.natAbs l1 (by omega)) rfl rfl rfl ⟨.inl rfl, .inl rfl, trivial⟩ ?_
              refine AOps.call (ratof_fn _ (a2.natAbs ^ n.natAbs) (a1.natAbs ^ n.natAbs) (pow_len' l2 (by omega)) (pow_len' l1 (by omega)) (Nat.pos_iff_ne_zero.1 (Nat.pow_pos (by omega)))) rfl rfl rfl ⟨.inl rfl, .inl rfl, .inl rfl, trivial⟩ ?_
              refine pT rfl rfl rfl ?_
              refine pI rfl rfl rfl ?_
              refine AOps.store tabOk (v := .dat (.st _ _)) rfl rfl rfl rfl rfl rfl rfl rfl rfl rfl rfl rfl rfl ?_
              refine pI rfl rfl rfl ?_
              refine AOps.done ?_
              refine AWp.ret ?_
              exact ⟨_, rfl, by rw [hS, if_pos hneg, if_neg h0, h26]; rfl⟩
            · -- c26 = true
              refine pI rfl rfl rfl ?_
              refine pI rfl rfl rfl ?_
              refine AOps.b tabOk rfl rfl rfl (fun c30 h30 => ?_)
              refine pB rfl rfl rfl ?_
              refine pP rfl rfl rfl ?_
              refine pI rfl rfl rfl ?_
              refine AOps.call (size_fn a2 h2) rfl rfl rfl ⟨.inl rfl, trivial⟩ ?_
              refine pI rfl rfl rfl ?_
              refine AOps.i tabOk rfl rfl rfl (j := ((n.natAbs : Nat) : Int)) (by rw [wi (by omega) (by omega)]; omega) ?_
              refine AOps.call (power_fn a2.natAbs n.natAbs l2 (by omega)) rfl rfl rfl ⟨.inl rfl, .inl rfl, trivial⟩ ?_
              refine pP rfl rfl rfl ?_
              refine pI rfl rfl rfl ?_
              refine AOps.call (size_fn a1 h1) rfl rfl rfl ⟨.inl rfl, trivial⟩ ?_
              refine pI rfl rfl rfl ?_
              refine AOps.i tabOk rfl rfl rfl (j := ((n.natAbs : Nat) : Int)) (by rw [wi (by omega) (by omega)]; omega) ?_
              refine AOps.call (power_fn a1.natAbs n.natAbs l1 (by omega)) rfl rfl rfl ⟨.inl rfl, .inl rfl, trivial⟩ ?_
              refine AOps.call (ratof_fn _ (a2.natAbs ^ n.natAbs) (a1.natAbs ^ n.natAbs) (pow_len' l2 (by omega)) (pow_len' l1 (by omega)) (Nat.pos_iff_ne_zero.1 (Nat.pow_pos (by omega)))) rfl rfl rfl ⟨.inl rfl, .inl rfl, .inl rfl, trivial⟩ ?_
              refine pT rfl rfl rfl ?_
              refine pI rfl rfl rfl ?_
              refine AOps.store tabOk (v := .dat (.st _ _)) rfl rfl rfl rfl rfl rfl rfl rfl rfl rfl rfl rfl rfl ?_
              refine pI rfl rfl rfl ?_
              refine AOps.done ?_
              refine AWp.ret ?_
              exact ⟨_, rfl, by rw [hS, if_pos hneg, if_neg h0, ← h30, tmod2, h26]; rfl⟩
        · subst e
          have hneg : ¬ (n < 0) := by simpa using h19
          refine AWp.skip ?_
          refine AWp.seq ?_
          refine AWp.regionD (fun o => writes o) mixed (by decide +kernel) rfl ?_
          refine pP rfl rfl rfl ?_
          refine pI rfl rfl rfl ?_
          refine AOps.b tabOk rfl rfl rfl (fun c49 h49 => ?_)
          refine pB rfl rfl rfl ?_
          cases c49
          · -- c49 = false
            refine AOps.off rfl rfl ?_
            refine AOps.off rfl rfl ?_
            refine AOps.off rfl rfl ?_
            refine pB rfl rfl rfl ?_
            refine pP rfl rfl rfl ?_
            refine pI rfl rfl rfl ?_
            refine AOps.call (size_fn a1 h1) rfl rfl rfl ⟨.inl rfl, trivial⟩ ?_
            refine AOps.i tabOk rfl rfl rfl (j := ((n.natAbs : Nat) : Int)) (by omega) ?_
            refine AOps.call (power_fn a1.natAbs n.natAbs l1 (by omega)) rfl rfl rfl ⟨.inl rfl, .inl rfl, trivial⟩ ?_
            refine pP rfl rfl rfl ?_
            refine pI rfl rfl rfl ?_
            refine AOps.call (size_fn a2 h2) rfl rfl rfl ⟨.inl rfl, trivial⟩ ?_
            refine AOps.i tabOk rfl rfl rfl (j := ((n.natAbs : Nat) : Int)) (by omega) ?_
            refine AOps.call (power_fn a2.natAbs n.natAbs l2 (by omega)) rfl rfl rfl ⟨.inl rfl, .inl rfl, trivial⟩ ?_
            refine AOps.call (ratof_fn _ (a1.natAbs ^ n.natAbs) (a2.natAbs ^ n.natAbs) (pow_len' l1 (by omega)) (pow_len' l2 (by omega)) (Nat.pos_iff_ne_zero.1 (Nat.pow_pos (by omega)))) rfl rfl rfl ⟨.inl rfl, .inl rfl, .inl rfl, trivial⟩ ?_
            refine pT rfl rfl rfl ?_
            refine pI rfl rfl rfl ?_
            refine AOps.store tabOk (v := .dat (.st _ _)) rfl rfl rfl rfl rfl rfl rfl rfl rfl rfl rfl rfl rfl ?_
            refine pI rfl rfl rfl ?_
            refine AOps.done ?_
            refine AWp.ret ?_
            exact ⟨_, rfl, by rw [hS, if_neg hneg, h49]; rfl⟩
          · -- c49 = true
            refine pI rfl rfl rfl ?_
            refine pI rfl rfl rfl ?_
            refine AOps.b tabOk rfl rfl rfl (fun c53 h53 => ?_)
            refine pB rfl rfl rfl ?_
            refine pP rfl rfl rfl ?_
            refine pI rfl rfl rfl ?_
            refine AOps.call (size_fn a1 h1) rfl rfl rfl ⟨.inl rfl, trivial⟩ ?_
            refine AOps.i tabOk rfl rfl rfl (j := ((n.natAbs : Nat) : Int)) (by omega) ?_
            refine AOps.call (power_fn a1.natAbs n.natAbs l1 (by omega)) rfl rfl rfl ⟨.inl rfl, .inl rfl, trivial⟩ ?_
            refine pP rfl rfl rfl ?_
            refine pI rfl rfl rfl ?_
            refine AOps.call (size_fn a2 h2) rfl rfl rfl ⟨.inl rfl, trivial⟩ ?_
            refine AOps.i tabOk rfl rfl rfl (j := ((n.natAbs : Nat) : Int)) (by omega) ?_
            refine AOps.call (power_fn a2.natAbs n.natAbs l2 (by omega)) rfl rfl rfl ⟨.inl rfl, .inl rfl, trivial⟩ ?_
            refine AOps.call (ratof_fn _ (a1.natAbs ^ n.natAbs) (a2.natAbs ^ n.natAbs) (pow_len' l1 (by omega)) (pow_len' l2 (by omega)) (Nat.pos_iff_ne_zero.1 (Nat.pow_pos (by omega)))) rfl rfl rfl ⟨.inl rfl, .inl rfl, .inl rfl, trivial⟩ ?_
            refine pT rfl rfl rfl ?_
            refine pI rfl rfl rfl ?_
            refine AOps.store tabOk (v := .dat (.st _ _)) rfl rfl rfl rfl rfl rfl rfl rfl rfl rfl rfl rfl rfl ?_
            refine pI rfl rfl rfl ?_
            refine AOps.done ?_
            refine AWp.ret ?_
            exact ⟨_, rfl, by rw [hS, if_neg hneg, ← h53, tmod2, h49]; rfl⟩
    · -- c11 = true
      have hb : ¬ (-64 ≤ n) := by have := h11; simp at this; omega
      refine AOps.off rfl rfl ?_
      refine AOps.off rfl rfl ?_
      refine pB rfl rfl rfl ?_
      refine AOps.done ?_
      refine AWp.condT rfl ?_
      refine AWp.seq ?_
      refine AWp.regionN (fun o => writes o) rfl ?_
      refine pT rfl rfl rfl ?_
      refine AOps.store tabOk (v := .dat (.st _ _)) rfl rfl rfl rfl rfl rfl rfl rfl rfl rfl rfl rfl rfl ?_
      refine pI rfl rfl rfl ?_
      refine AOps.done ?_
      refine AWp.ret ?_
      exact ⟨_, rfl, by rw [powS, if_neg (by simp [hb])]; rfl⟩
  · -- c8 = true
    have hr : rightS a1 a2 = false := by simpa using h8
    refine AOps.off rfl rfl ?_
    refine AOps.off rfl rfl ?_
    refine pB rfl rfl rfl ?_
    refine pB rfl rfl rfl ?_
    refine AOps.off rfl rfl ?_
    refine AOps.off rfl rfl ?_
    refine pB rfl rfl rfl ?_
    refine AOps.done ?_
    refine AWp.condT rfl ?_
    refine AWp.seq ?_
    refine AWp.regionN (fun o => writes o) rfl ?_
    refine pT rfl rfl rfl ?_
    refine AOps.store tabOk (v := .dat (.st _ _)) rfl rfl rfl rfl rfl rfl rfl rfl rfl rfl rfl rfl rfl ?_
    refine pI rfl rfl rfl ?_
    refine AOps.done ?_
    refine AWp.ret ?_
    exact ⟨_, rfl, by rw [powS, if_neg (by simp [hr])]; rfl⟩

theorem pow1_fn (a1 a2 n : Int) (h1 : inI a1) (h2 : inI a2) (hn : inI n) (h0 : 0 ≤ n) : AFn prog 18 [.st [1, 1] [.v (.int .i64 a1), .v (.int .i64 a2)], .v (.int .i64 n)] (ansD (powS (a1, a2) n)) false := by
  refine AFn.intro' (L := [(0, .dat (.st [1, 1] [.v (.int .i64 a1), .v (.int .i64 a2)])), (1, .dat (.v (.int .i64 n)))]) tabOk Try.func18 rfl rfl Try.ntmps18 rfl rfl rfl ?_
  refine AWp.seq ?_
  refine AWp.regionN (fun _ => false) rfl ?_
  refine AOps.box (v := .dat (.st _ _)) rfl rfl rfl rfl rfl rfl ?_
  refine AOps.alloc tabOk rfl rfl rfl rfl rfl ?_
  refine pI rfl rfl rfl ?_
  refine AOps.done ?_
  refine AWp.seq ?_
  refine AWp.regionN (fun o => writes o) rfl ?_
  refine pT rfl rfl rfl ?_
  refine AOps.alloc tabOk rfl rfl rfl rfl rfl ?_
  refine AOps.store tabOk (v := .dat (.st _ _)) rfl rfl rfl rfl rfl rfl rfl rfl rfl rfl rfl rfl rfl ?_
  refine AOps.done ?_
  refine AWp.seq ?_
  refine AWp.seq ?_
  refine AWp.regionN (fun _ => false) rfl ?_
  refine pT rfl rfl rfl ?_
  refine AOps.call (right_fn a1 a2 h1 h2) rfl rfl rfl ⟨.inl rfl, trivial⟩ ?_
  refine AOps.b tabOk rfl rfl rfl (fun c15 h15 => ?_)
  refine pB rfl rfl rfl ?_
  cases c15
  · -- c15 = false
    have hr1 : rightS a1 a2 = true := by simpa using h15
    obtain ⟨p1, p2, p3⟩ := rightS_spec.1 hr1
    refine pI rfl rfl rfl ?_
    refine AOps.b tabOk rfl rfl rfl (fun c18 h18 => ?_)
    refine pB rfl rfl rfl ?_
    refine pB rfl rfl rfl ?_
    cases c18
    · -- c18 = false
      have hb : -64 ≤ n := by have := h18; simp at this; omega
      refine pI rfl rfl rfl ?_
      refine AOps.b tabOk rfl rfl rfl (fun c22 h22 => ?_)
      refine pB rfl rfl rfl ?_
      refine AOps.done ?_
      refine AWp.cond rfl (fun e => ?_) (fun e => ?_)
      · subst e
        have hc : ¬ (n ≤ 64) := by have := h22; simp at this; omega
        refine AWp.seq ?_
        refine AWp.regionN (fun o => writes o) rfl ?_
        refine pT rfl rfl rfl ?_
        refine AOps.store tabOk (v := .dat (.st _ _)) rfl rfl rfl rfl rfl rfl rfl rfl rfl rfl rfl rfl rfl ?_
        refine pI rfl rfl rfl ?_
        refine AOps.done ?_
        refine AWp.ret ?_
        exact ⟨_, rfl, by rw [powS, if_neg (by simp [hc])]; rfl⟩
      · subst e
        have hc : n ≤ 64 := by have := h22; simp at this; omega
        refine AWp.skip ?_
        refine AWp.seq ?_
        refine AWp.seq ?_
        refine AWp.regionN (fun _ => false) rfl ?_
        refine pI rfl rfl rfl ?_
        refine AOps.b tabOk rfl rfl rfl (fun c26 h26 => ?_)
        refine AOps.done ?_
        refine AWp.cond rfl (fun e => ?_) (fun e => ?_)
        · subst e
          have hneg : n < 0 := by simpa using h26
          omega
        · subst e
          have h0 : 0 ≤ n := by simpa using h26
          refine AWp.skip ?_
          refine AWp.seq ?_
          refine AWp.regionN (fun o => writes o) rfl ?_
          refine pT rfl rfl rfl ?_
          refine AOps.alloc tabOk rfl rfl rfl rfl rfl ?_
          refine AOps.store tabOk (v := .dat (.st _ _)) rfl rfl rfl rfl rfl rfl rfl rfl rfl rfl rfl rfl rfl ?_
          refine AOps.done ?_
          refine AWp.seq ?_
          refine AWp.seq ?_
          refine AWp.regionN (fun _ => false) rfl ?_
          refine pI rfl rfl rfl ?_
          refine pI rfl rfl rfl ?_
          refine AOps.done ?_
          refine AWp.block ?_
          refine AWp.loop (I := fun (z : Int × Int × Nat) => mkSt [(2, .pt 2 [] 0), (4, .pt 4 [] 0), (9, .pt 9 [] 0), (44, .dat (.v (.int .i64 n))), (45, .dat (.v (.int .i64 (z.2.2 : Nat))))] [(2, .box 23 2 (.dat (.st [1, 1] [.v (.int .i64 a1), .v (.int .i64 a2)]))), (4, .box 23 2 (.dat (.st [1, 1] [.v (.int .i64 0), .v (.int .i64 0)]))), (9, .box 23 2 (.dat (.st [1, 1] [.v (.int .i64 z.1), .v (.int .i64 z.2.1)])))]) (Inv := fun z => PowI a1 a2 z.1 z.2.1 z.2.2 ∧ z.2.2 ≤ n.natAbs) (μ := fun z => n.natAbs - z.2.2) (x0 := (1, 1, 0)) ⟨powI_zero a1 a2, Nat.zero_le _⟩ (Sub.list (fun i => i) rfl rfl ⟨rfl, rfl, rfl, rfl, rfl, trivial⟩ ⟨rfl, rfl, rfl, trivial⟩) (fun ⟨x, y, i⟩ hx => ?_)
          obtain ⟨k1, k2⟩ := hx
          simp only at k1 k2
          obtain ⟨i1, i2⟩ := k1.2.2.2.2
          refine AWp.seq ?_
          refine AWp.regionN (fun _ => false) rfl ?_
          refine AOps.b tabOk rfl rfl rfl (fun c46 h46 => ?_)
          refine AOps.done ?_
          refine AWp.seq ?_
          refine AWp.cond rfl (fun e => ?_) (fun e => ?_)
          · subst e
            have hi : i < n.natAbs := by have := h46; simp at this; omega
            have hM := pow_mul hr1 k1
            refine AWp.skip ?_
            refine AWp.seq ?_
            refine AWp.block ?_
            refine AWp.seq ?_
            refine AWp.regionN (fun o => writes o) rfl ?_
            refine pT rfl rfl rfl ?_
            refine pT rfl rfl rfl ?_
            refine AOps.call (mul_fn x y a1 a2 i1 i2 h1 h2) rfl rfl rfl ⟨.inl rfl, .inl rfl, trivial⟩ ?_
            refine pU rfl rfl rfl ?_
            refine pT rfl rfl rfl ?_
            refine pI rfl rfl rfl ?_
            refine AOps.alloc tabOk rfl rfl rfl rfl rfl ?_
            refine AOps.store tabOk (v := .dat (.st _ _)) rfl rfl rfl rfl rfl rfl rfl rfl rfl rfl rfl rfl rfl ?_
            refine pI rfl rfl rfl ?_
            refine AOps.done ?_
            refine AWp.seq ?_
            refine AWp.seq ?_
            refine AWp.regionN (fun _ => false) rfl ?_
            refine pI rfl rfl rfl ?_
            refine AOps.b tabOk rfl rfl rfl (fun c54 h54 => ?_)
            refine AOps.done ?_
            refine AWp.cond rfl (fun e => ?_) (fun e => ?_)
            · subst e
              have hz : (mulS (x, y) (a1, a2)).2 ≠ 0 := by simpa using h54
              have hov : ¬ (a1.natAbs ^ (i + 1) < 9223372036854775808 ∧ a2.natAbs ^ (i + 1) < 9223372036854775808) := by intro g; rw [hM, if_pos g] at hz; exact hz rfl
              refine AWp.seq ?_
              refine AWp.regionN (fun o => writes o) rfl ?_
              refine pT rfl rfl rfl ?_
              refine pI rfl rfl rfl ?_
              refine AOps.store tabOk (v := .dat (.st _ _)) rfl rfl rfl rfl rfl rfl rfl rfl rfl rfl rfl rfl rfl ?_
              refine pI rfl rfl rfl ?_
              refine AOps.done ?_
              refine AWp.ret ?_
              exact ⟨_, rfl, by rw [powS_over hr1 h0 hc hi hov, hM, if_neg hov]; rfl⟩
            · subst e
              have hz : (mulS (x, y) (a1, a2)).2 = 0 := by simpa using h54
              have hfit : a1.natAbs ^ (i + 1) < 9223372036854775808 ∧ a2.natAbs ^ (i + 1) < 9223372036854775808 := by refine Decidable.not_not.1 (fun g => ?_); rw [hM, if_neg g] at hz; simp at hz
              have hn1 := pow_next hr1 hfit.1 hfit.2
              rw [if_pos hfit] at hM
              refine AWp.skip ?_
              refine AWp.regionN (fun o => writes o) rfl ?_
              refine pT rfl rfl rfl ?_
              refine AOps.store tabOk (v := .dat (.st _ _)) rfl rfl rfl rfl rfl rfl rfl rfl rfl rfl rfl rfl rfl ?_
              refine AOps.done ?_
              refine AWp.regionN (fun _ => false) rfl ?_
              refine AOps.i tabOk rfl rfl rfl (j := ((i + 1 : Nat) : Int)) (by show IntKind.i64.wrap ((i : Int) + 1) = _; rw [wi (by omega) (by omega)]; omega) ?_
              refine pI rfl rfl rfl ?_
              refine AOps.done ?_
              exact ⟨((mulS (x, y) (a1, a2)).1.1, (mulS (x, y) (a1, a2)).1.2, i + 1), ⟨by simp only; rw [hM]; exact hn1, by simp only; omega⟩, by simp only; omega, (Sub.list (fun i => i) rfl rfl ⟨rfl, rfl, rfl, rfl, rfl, trivial⟩ ⟨rfl, rfl, rfl, trivial⟩)⟩
          · subst e
            have hi : i = n.natAbs := by have := h46; simp at this; omega
            subst hi
            refine AWp.exit ?_
            refine AWp.seq ?_
            refine AWp.regionN (fun o => writes o) rfl ?_
            refine pT rfl rfl rfl ?_
            refine AOps.store tabOk (v := .dat (.st _ _)) rfl rfl rfl rfl rfl rfl rfl rfl rfl rfl rfl rfl rfl ?_
            refine pI rfl rfl rfl ?_
            refine AOps.done ?_
            refine AWp.ret ?_
            exact ⟨_, rfl, by rw [powS_done hr1 h0 hc k1]; rfl⟩
    · -- c18 = true
      have hb : ¬ (-64 ≤ n) := by have := h18; simp at this; omega
      refine AOps.off rfl rfl ?_
      refine AOps.off rfl rfl ?_
      refine pB rfl rfl rfl ?_
      refine AOps.done ?_
      refine AWp.condT rfl ?_
      refine AWp.seq ?_
      refine AWp.regionN (fun o => writes o) rfl ?_
      refine pT rfl rfl rfl ?_
      refine AOps.store tabOk (v := .dat (.st _ _)) rfl rfl rfl rfl rfl rfl rfl rfl rfl rfl rfl rfl rfl ?_
      refine pI rfl rfl rfl ?_
      refine AOps.done ?_
      refine AWp.ret ?_
      exact ⟨_, rfl, by rw [powS, if_neg (by simp [hb])]; rfl⟩
  · -- c15 = true
    have hr : rightS a1 a2 = false := by simpa using h15
    refine AOps.off rfl rfl ?_
    refine AOps.off rfl rfl ?_
    refine pB rfl rfl rfl ?_
    refine pB rfl rfl rfl ?_
    refine AOps.off rfl rfl ?_
    refine AOps.off rfl rfl ?_
    refine pB rfl rfl rfl ?_
    refine AOps.done ?_
    refine AWp.condT rfl ?_
    refine AWp.seq ?_
    refine AWp.regionN (fun o => writes o) rfl ?_
    refine pT rfl rfl rfl ?_
    refine AOps.store tabOk (v := .dat (.st _ _)) rfl rfl rfl rfl rfl rfl rfl rfl rfl rfl rfl rfl rfl ?_
    refine pI rfl rfl rfl ?_
    refine AOps.done ?_
    refine AWp.ret ?_
    exact ⟨_, rfl, by rw [powS, if_neg (by simp [hr])]; rfl⟩

theorem pow_fn (a1 a2 n : Int) (h1 : inI a1) (h2 : inI a2) (hn : inI n) : AFn prog 18 [.st [1, 1] [.v (.int .i64 a1), .v (.int .i64 a2)], .v (.int .i64 n)] (ansD (powS (a1, a2) n)) false := by
  refine AFn.intro' (L := [(0, .dat (.st [1, 1] [.v (.int .i64 a1), .v (.int .i64 a2)])), (1, .dat (.v (.int .i64 n)))]) tabOk Try.func18 rfl rfl Try.ntmps18 rfl rfl rfl ?_
  refine AWp.seq ?_
  refine AWp.regionN (fun _ => false) rfl ?_
  refine AOps.box (v := .dat (.st _ _)) rfl rfl rfl rfl rfl rfl ?_
  refine AOps.alloc tabOk rfl rfl rfl rfl rfl ?_
  refine pI rfl rfl rfl ?_
  refine AOps.done ?_
  refine AWp.seq ?_
  refine AWp.regionN (fun o => writes o) rfl ?_
  refine pT rfl rfl rfl ?_
  refine AOps.alloc tabOk rfl rfl rfl rfl rfl ?_
  refine AOps.store tabOk (v := .dat (.st _ _)) rfl rfl rfl rfl rfl rfl rfl rfl rfl rfl rfl rfl rfl ?_
  refine AOps.done ?_
  refine AWp.seq ?_
  refine AWp.seq ?_
  refine AWp.regionN (fun _ => false) rfl ?_
  refine pT rfl rfl rfl ?_
  refine AOps.call (right_fn a1 a2 h1 h2) rfl rfl rfl ⟨.inl rfl, trivial⟩ ?_
  refine AOps.b tabOk rfl rfl rfl (fun c15 h15 => ?_)
  refine pB rfl rfl rfl ?_
  cases c15
  · -- c15 = false
    have hr1 : rightS a1 a2 = true := by simpa using h15
    obtain ⟨p1, p2, p3⟩ := rightS_spec.1 hr1
    refine pI rfl rfl rfl ?_
    refine AOps.b tabOk rfl rfl rfl (fun c18 h18 => ?_)
    refine pB rfl rfl rfl ?_
    refine pB rfl rfl rfl ?_
    cases c18
    · -- c18 = false
      have hb : -64 ≤ n := by have := h18; simp at this; omega
      refine pI rfl rfl rfl ?_
      refine AOps.b tabOk rfl rfl rfl (fun c22 h22 => ?_)
      refine pB rfl rfl rfl ?_
      refine AOps.done ?_
      refine AWp.cond rfl (fun e => ?_) (fun e => ?_)
      · subst e
        have hc : ¬ (n ≤ 64) := by have := h22; simp at this; omega
        refine AWp.seq ?_
        refine AWp.regionN (fun o => writes o) rfl ?_
        refine pT rfl rfl rfl ?_
        refine AOps.store tabOk (v := .dat (.st _ _)) rfl rfl rfl rfl rfl rfl rfl rfl rfl rfl rfl rfl rfl ?_
        refine pI rfl rfl rfl ?_
        refine AOps.done ?_
        refine AWp.ret ?_
        exact ⟨_, rfl, by rw [powS, if_neg (by simp [hc])]; rfl⟩
      · subst e
        have hc : n ≤ 64 := by have := h22; simp at this; omega
        refine AWp.skip ?_
        refine AWp.seq ?_
        refine AWp.seq ?_
        refine AWp.regionN (fun _ => false) rfl ?_
        refine pI rfl rfl rfl ?_
        refine AOps.b tabOk rfl rfl rfl (fun c26 h26 => ?_)
        refine AOps.done ?_
        refine AWp.cond rfl (fun e => ?_) (fun e => ?_)
        · subst e
          have hneg : n < 0 := by simpa using h26
          obtain ⟨dv, d1, d2⟩ := pow_div h1 h2 hr1
          refine AWp.seq ?_
          refine AWp.regionN (fun o => writes o) rfl ?_
          refine pT rfl rfl rfl ?_
          refine pT rfl rfl rfl ?_
          refine AOps.call (div_fn 1 1 a1 a2 (by unfold inI; omega) (by unfold inI; omega) h1 h2) rfl rfl rfl ⟨.inl rfl, .inl rfl, trivial⟩ ?_
          refine pU rfl rfl rfl ?_
          refine pT rfl rfl rfl ?_
          refine pI rfl rfl rfl ?_
          refine AOps.alloc tabOk rfl rfl rfl rfl rfl ?_
          refine AOps.store tabOk (v := .dat (.st _ _)) rfl rfl rfl rfl rfl rfl rfl rfl rfl rfl rfl rfl rfl ?_
          refine pI rfl rfl rfl ?_
          refine AOps.done ?_
          refine AWp.seq ?_
          refine AWp.seq ?_
          refine AWp.regionN (fun _ => false) rfl ?_
          refine pI rfl rfl rfl ?_
          refine AOps.b tabOk rfl rfl rfl (fun c34 h34 => ?_)
          refine AOps.done ?_
          refine AWp.cond rfl (fun e => ?_) (fun e => ?_)
          · subst e
            have hz : (divS (1, 1) (a1, a2)).2 ≠ 0 := by simpa using h34
            refine AWp.seq ?_
            refine AWp.regionN (fun o => writes o) rfl ?_
            refine pT rfl rfl rfl ?_
            refine pI rfl rfl rfl ?_
            refine AOps.store tabOk (v := .dat (.st _ _)) rfl rfl rfl rfl rfl rfl rfl rfl rfl rfl rfl rfl rfl ?_
            refine pI rfl rfl rfl ?_
            refine AOps.done ?_
            refine AWp.ret ?_
            exact ⟨_, rfl, by rw [pow_neg_bad hr1 h1 h2 hneg hb hz]; rfl⟩
          · subst e
            have hz : (divS (1, 1) (a1, a2)).2 = 0 := by simpa using h34
            refine AWp.skip ?_
            refine AWp.seq ?_
            refine AWp.regionN (fun o => writes o) rfl ?_
            refine pT rfl rfl rfl ?_
            refine pI rfl rfl rfl ?_
            refine AOps.i tabOk rfl rfl rfl (j := -n) (by rw [wi (by omega) (by omega)]; omega) ?_
            refine AOps.call (pow1_fn _ _ (-n) d1 d2 (by unfold inI; omega) (by omega)) rfl rfl rfl ⟨.inl rfl, .inl rfl, trivial⟩ ?_
            refine pT rfl rfl rfl ?_
            refine pI rfl rfl rfl ?_
            refine AOps.store tabOk (v := .dat (.st _ _)) rfl rfl rfl rfl rfl rfl rfl rfl rfl rfl rfl rfl rfl ?_
            refine pI rfl rfl rfl ?_
            refine AOps.done ?_
            refine AWp.ret ?_
            exact ⟨_, rfl, by rw [← pow_neg_ok hr1 h1 h2 hneg hb hz]; rfl⟩
        · subst e
          have h0 : 0 ≤ n := by simpa using h26
          refine AWp.skip ?_
          refine AWp.seq ?_
          refine AWp.regionN (fun o => writes o) rfl ?_
          refine pT rfl rfl rfl ?_
          refine AOps.alloc tabOk rfl rfl rfl rfl rfl ?_
          refine AOps.store tabOk (v := .dat (.st _ _)) rfl rfl rfl rfl rfl rfl rfl rfl rfl rfl rfl rfl rfl ?_
          refine AOps.done ?_
          refine AWp.seq ?_
          refine AWp.seq ?_
          refine AWp.regionN (fun _ => false) rfl ?_
          refine pI rfl rfl rfl ?_
          refine pI rfl rfl rfl ?_
          refine AOps.done ?_
          refine AWp.block ?_
          refine AWp.loop (I := fun (z : Int × Int × Nat) => mkSt [(2, .pt 2 [] 0), (4, .pt 4 [] 0), (9, .pt 9 [] 0), (44, .dat (.v (.int .i64 n))), (45, .dat (.v (.int .i64 (z.2.2 : Nat))))] [(2, .box 23 2 (.dat (.st [1, 1] [.v (.int .i64 a1), .v (.int .i64 a2)]))), (4, .box 23 2 (.dat (.st [1, 1] [.v (.int .i64 0), .v (.int .i64 0)]))), (9, .box 23 2 (.dat (.st [1, 1] [.v (.int .i64 z.1), .v (.int .i64 z.2.1)])))]) (Inv := fun z => PowI a1 a2 z.1 z.2.1 z.2.2 ∧ z.2.2 ≤ n.natAbs) (μ := fun z => n.natAbs - z.2.2) (x0 := (1, 1, 0)) ⟨powI_zero a1 a2, Nat.zero_le _⟩ (Sub.list (fun i => i) rfl rfl ⟨rfl, rfl, rfl, rfl, rfl, trivial⟩ ⟨rfl, rfl, rfl, trivial⟩) (fun ⟨x, y, i⟩ hx => ?_)
          obtain ⟨k1, k2⟩ := hx
          simp only at k1 k2
          obtain ⟨i1, i2⟩ := k1.2.2.2.2
          refine AWp.seq ?_
          refine AWp.regionN (fun _ => false) rfl ?_
          refine AOps.b tabOk rfl rfl rfl (fun c46 h46 => ?_)
          refine AOps.done ?_
          refine AWp.seq ?_
          refine AWp.cond rfl (fun e => ?_) (fun e => ?_)
          · subst e
            have hi : i < n.natAbs := by have := h46; simp at this; omega
            have hM := pow_mul hr1 k1
            refine AWp.skip ?_
            refine AWp.seq ?_
            refine AWp.block ?_
            refine AWp.seq ?_
            refine AWp.regionN (fun o => writes o) rfl ?_
            refine pT rfl rfl rfl ?_
            refine pT rfl rfl rfl ?_
            refine AOps.call (mul_fn x y a1 a2 i1 i2 h1 h2) rfl rfl rfl ⟨.inl rfl, .inl rfl, trivial⟩ ?_
            refine pU rfl rfl rfl ?_
            refine pT rfl rfl rfl ?_
            refine pI rfl rfl rfl ?_
            refine AOps.alloc tabOk rfl rfl rfl rfl rfl ?_
            refine AOps.store tabOk (v := .dat (.st _ _)) rfl rfl rfl rfl rfl rfl rfl rfl rfl rfl rfl rfl rfl ?_
            refine pI rfl rfl rfl ?_
            refine AOps.done ?_
            refine AWp.seq ?_
            refine AWp.seq ?_
            refine AWp.regionN (fun _ => false) rfl ?_
            refine pI rfl rfl rfl ?_
            refine AOps.b tabOk rfl rfl rfl (fun c54 h54 => ?_)
            refine AOps.done ?_
            refine AWp.cond rfl (fun e => ?_) (fun e => ?_)
            · subst e
              have hz : (mulS (x, y) (a1, a2)).2 ≠ 0 := by simpa using h54
              have hov : ¬ (a1.natAbs ^ (i + 1) < 9223372036854775808 ∧ a2.natAbs ^ (i + 1) < 9223372036854775808) := by intro g; rw [hM, if_pos g] at hz; exact hz rfl
              refine AWp.seq ?_
              refine AWp.regionN (fun o => writes o) rfl ?_
              refine pT rfl rfl rfl ?_
              refine pI rfl rfl rfl ?_
              refine AOps.store tabOk (v := .dat (.st _ _)) rfl rfl rfl rfl rfl rfl rfl rfl rfl rfl rfl rfl rfl ?_
              refine pI rfl rfl rfl ?_
              refine AOps.done ?_
              refine AWp.ret ?_
              exact ⟨_, rfl, by rw [powS_over hr1 h0 hc hi hov, hM, if_neg hov]; rfl⟩
            · subst e
              have hz : (mulS (x, y) (a1, a2)).2 = 0 := by simpa using h54
              have hfit : a1.natAbs ^ (i + 1) < 9223372036854775808 ∧ a2.natAbs ^ (i + 1) < 9223372036854775808 := by refine Decidable.not_not.1 (fun g => ?_); rw [hM, if_neg g] at hz; simp at hz
              have hn1 := pow_next hr1 hfit.1 hfit.2
              rw [if_pos hfit] at hM
              refine AWp.skip ?_
              refine AWp.regionN (fun o => writes o) rfl ?_
              refine pT rfl rfl rfl ?_
              refine AOps.store tabOk (v := .dat (.st _ _)) rfl rfl rfl rfl rfl rfl rfl rfl rfl rfl rfl rfl rfl ?_
              refine AOps.done ?_
              refine AWp.regionN (fun _ => false) rfl ?_
              refine AOps.i tabOk rfl rfl rfl (j := ((i + 1 : Nat) : Int)) (by show IntKind.i64.wrap ((i : Int) + 1) = _; rw [wi (by omega) (by omega)]; omega) ?_
              refine pI rfl rfl rfl ?_
              refine AOps.done ?_
              exact ⟨((mulS (x, y) (a1, a2)).1.1, (mulS (x, y) (a1, a2)).1.2, i + 1), ⟨by simp only; rw [hM]; exact hn1, by simp only; omega⟩, by simp only; omega, (Sub.list (fun i => i) rfl rfl ⟨rfl, rfl, rfl, rfl, rfl, trivial⟩ ⟨rfl, rfl, rfl, trivial⟩)⟩
          · subst e
            have hi : i = n.natAbs := by have := h46; simp at this; omega
            subst hi
            refine AWp.exit ?_
            refine AWp.seq ?_
            refine AWp.regionN (fun o => writes o) rfl ?_
            refine pT rfl rfl rfl ?_
            refine AOps.store tabOk (v := .dat (.st _ _)) rfl rfl rfl rfl rfl rfl rfl rfl rfl rfl rfl rfl rfl ?_
            refine pI rfl rfl rfl ?_
            refine AOps.done ?_
            refine AWp.ret ?_
            exact ⟨_, rfl, by rw [powS_done hr1 h0 hc k1]; rfl⟩
    · -- c18 = true
      have hb : ¬ (-64 ≤ n) := by have := h18; simp at this; omega
      refine AOps.off rfl rfl ?_
      refine AOps.off rfl rfl ?_
      refine pB rfl rfl rfl ?_
      refine AOps.done ?_
      refine AWp.condT rfl ?_
      refine AWp.seq ?_
      refine AWp.regionN (fun o => writes o) rfl ?_
      refine pT rfl rfl rfl ?_
      refine AOps.store tabOk (v := .dat (.st _ _)) rfl rfl rfl rfl rfl rfl rfl rfl rfl rfl rfl rfl rfl ?_
      refine pI rfl rfl rfl ?_
      refine AOps.done ?_
      refine AWp.ret ?_
      exact ⟨_, rfl, by rw [powS, if_neg (by simp [hb])]; rfl⟩
  · -- c15 = true
    have hr : rightS a1 a2 = false := by simpa using h15
    refine AOps.off rfl rfl ?_
    refine AOps.off rfl rfl ?_
    refine pB rfl rfl rfl ?_
    refine pB rfl rfl rfl ?_
    refine AOps.off rfl rfl ?_
    refine AOps.off rfl rfl ?_
    refine pB rfl rfl rfl ?_
    refine AOps.done ?_
    refine AWp.condT rfl ?_
    refine AWp.seq ?_
    refine AWp.regionN (fun o => writes o) rfl ?_
    refine pT rfl rfl rfl ?_
    refine AOps.store tabOk (v := .dat (.st _ _)) rfl rfl rfl rfl rfl rfl rfl rfl rfl rfl rfl rfl rfl ?_
    refine pI rfl rfl rfl ?_
    refine AOps.done ?_
    refine AWp.ret ?_
    exact ⟨_, rfl, by rw [powS, if_neg (by simp [hr])]; rfl⟩

end Go.Sim.Ytnhflokfcnfegaa

/- What is proved: what the document's sums, differences, products and quotients compute. -/
namespace Go.Sim.Ytnhflokfcnfegaa
open Go.RowKit Go.Proofs Go.Proofs.Try

theorem sum_fn (s t : Bool) (m n : Nat) (hm : (dig m).length ≤ 100000) (hn : (dig n).length ≤ 100000) (hs : m = 0 → s = false) (ht : n = 0 → t = false) : AFn prog 57 [numD s m, numD t n] (numD (decide ((valS s m + valS t n) < 0)) (valS s m + valS t n).natAbs) false := by
  obtain ⟨w1, w2⟩ := sum_val hs ht
  refine AFn.intro' (L := [(0, .dat (numD s m)), (1, .dat (numD t n))]) tabOk Try.func57 rfl rfl Try.ntmps57 rfl rfl rfl ?_
  refine AWp.seq ?_
  refine AWp.regionN (fun _ => false) rfl ?_
  refine AOps.box (v := .dat (.st _ _)) rfl rfl rfl rfl rfl rfl ?_
  refine AOps.box (v := .dat (.st _ _)) rfl rfl rfl rfl rfl rfl ?_
  refine AOps.alloc tabOk rfl rfl rfl rfl rfl ?_
  refine AOps.done ?_
  refine AWp.seq ?_
  refine AWp.seq ?_
  refine AWp.regionN (fun _ => false) rfl ?_
  refine pP rfl rfl rfl ?_
  refine pS rfl rfl rfl ?_
  refine pI rfl rfl rfl ?_
  refine AOps.b tabOk rfl rfl rfl (fun c11 h11 => ?_)
  refine AOps.done ?_
  refine AWp.cond rfl (fun e => ?_) (fun e => ?_)
  · subst e
    have h0 : m = 0 := by have := h11; simp [bl] at this; exact dig_nil.1 this
    refine AWp.seq ?_
    refine AWp.regionN (fun o => writes o) rfl ?_
    refine pT rfl rfl rfl ?_
    refine AOps.store tabOk (v := .dat (.st _ _)) rfl rfl rfl rfl rfl rfl rfl rfl rfl rfl rfl rfl rfl ?_
    refine AOps.done ?_
    refine AWp.ret ?_
    exact ⟨_, rfl, by rw [← w1, ← w2, sumS, if_pos h0]; rfl⟩
  · subst e
    have h0 : m ≠ 0 := by rintro rfl; simp [bl, dig_zero] at h11
    refine AWp.skip ?_
    refine AWp.seq ?_
    refine AWp.seq ?_
    refine AWp.regionN (fun _ => false) rfl ?_
    refine pP rfl rfl rfl ?_
    refine pS rfl rfl rfl ?_
    refine pI rfl rfl rfl ?_
    refine AOps.b tabOk rfl rfl rfl (fun c16 h16 => ?_)
    refine AOps.done ?_
    refine AWp.cond rfl (fun e => ?_) (fun e => ?_)
    · subst e
      have g0 : n = 0 := by have := h16; simp [bl] at this; exact dig_nil.1 this
      refine AWp.seq ?_
      refine AWp.regionN (fun o => writes o) rfl ?_
      refine pT rfl rfl rfl ?_
      refine AOps.store tabOk (v := .dat (.st _ _)) rfl rfl rfl rfl rfl rfl rfl rfl rfl rfl rfl rfl rfl ?_
      refine AOps.done ?_
      refine AWp.ret ?_
      exact ⟨_, rfl, by rw [← w1, ← w2, sumS, if_neg h0, if_pos g0]; rfl⟩
    · subst e
      have g0 : n ≠ 0 := by rintro rfl; simp [bl, dig_zero] at h16
      refine AWp.skip ?_
      refine AWp.seq ?_
      refine AWp.regionN (fun o => writes o) rfl ?_
      refine pT rfl rfl rfl ?_
      refine pT rfl rfl rfl ?_
      refine AOps.call (level_fn s t m n) rfl rfl rfl ⟨.inl rfl, .inl rfl, trivial⟩ ?_
      refine pU rfl rfl rfl ?_
      refine pT rfl rfl rfl ?_
      refine pT rfl rfl rfl ?_
      refine AOps.alloc tabOk rfl rfl rfl rfl rfl ?_
      refine AOps.alloc tabOk rfl rfl rfl rfl rfl ?_
      refine AOps.store tabOk (v := .dat (.st _ _)) rfl rfl rfl rfl rfl rfl rfl rfl rfl rfl rfl rfl rfl ?_
      refine AOps.store tabOk (v := .dat (.st _ _)) rfl rfl rfl rfl rfl rfl rfl rfl rfl rfl rfl rfl rfl ?_
      refine AOps.done ?_
      refine AWp.seq ?_
      refine AWp.seq ?_
      refine AWp.regionN (fun _ => false) rfl ?_
      refine pP rfl rfl rfl ?_
      refine pB rfl rfl rfl ?_
      refine pP rfl rfl rfl ?_
      refine pB rfl rfl rfl ?_
      refine AOps.b tabOk rfl rfl rfl (fun c28 h28 => ?_)
      refine AOps.done ?_
      refine AWp.cond rfl (fun e => ?_) (fun e => ?_)
      · subst e
        have hst : s = t := by simpa using h28
        refine AWp.seq ?_
        refine AWp.regionD (fun o => writes o) mixed (by decide +kernel) rfl ?_
        refine pP rfl rfl rfl ?_
        refine pB rfl rfl rfl ?_
        refine pP rfl rfl rfl ?_
        refine pS rfl rfl rfl ?_
        refine pP rfl rfl rfl ?_
        refine pS rfl rfl rfl ?_
        refine AOps.call (plus_fn m n hm hn) rfl rfl rfl ⟨.inl rfl, .inl rfl, trivial⟩ ?_
        refine pP rfl rfl rfl ?_
        refine pI rfl rfl rfl ?_
        refine pT rfl rfl rfl ?_
        refine AOps.store tabOk (v := .dat (.st _ _)) rfl rfl rfl rfl rfl rfl rfl rfl rfl rfl rfl rfl rfl ?_
        refine AOps.done ?_
        refine AWp.ret ?_
        exact ⟨_, rfl, by rw [← w1, ← w2, sumS, if_neg h0, if_neg g0, if_pos hst]; rfl⟩
      · subst e
        have hst : s ≠ t := by simpa using h28
        refine AWp.skip ?_
        refine AWp.seq ?_
        refine AWp.regionN (fun _ => false) rfl ?_
        refine pP rfl rfl rfl ?_
        refine pS rfl rfl rfl ?_
        refine pP rfl rfl rfl ?_
        refine pS rfl rfl rfl ?_
        refine AOps.call (cmp_fn m n (by omega) (by omega)) rfl rfl rfl ⟨.inl rfl, .inl rfl, trivial⟩ ?_
        refine pI rfl rfl rfl ?_
        refine AOps.done ?_
        refine AWp.seq ?_
        refine AWp.seq ?_
        refine AWp.regionN (fun _ => false) rfl ?_
        refine pI rfl rfl rfl ?_
        refine AOps.b tabOk rfl rfl rfl (fun c45 h45 => ?_)
        refine AOps.done ?_
        refine AWp.cond rfl (fun e => ?_) (fun e => ?_)
        · subst e
          have hmn : m = n := by have := cmpS_bd m n; unfold cmpS at h45; by_cases g1 : m < n <;> by_cases g2 : n < m <;> simp [g1, g2] at h45 <;> omega
          refine AWp.seq ?_
          refine AWp.regionN (fun o => writes o) rfl ?_
          refine pT rfl rfl rfl ?_
          refine AOps.store tabOk (v := .dat (.st _ _)) rfl rfl rfl rfl rfl rfl rfl rfl rfl rfl rfl rfl rfl ?_
          refine AOps.done ?_
          refine AWp.ret ?_
          exact ⟨_, rfl, by rw [← w1, ← w2, sumS, if_neg h0, if_neg g0, if_neg hst, if_pos hmn]; simp [numD, dig_zero, bl]; rfl⟩
        · subst e
          have hmn : m ≠ n := by rintro rfl; simp [cmpS] at h45
          refine AWp.skip ?_
          refine AWp.seq ?_
          refine AWp.seq ?_
          refine AWp.regionN (fun _ => false) rfl ?_
          refine pI rfl rfl rfl ?_
          refine AOps.b tabOk rfl rfl rfl (fun c48 h48 => ?_)
          refine AOps.done ?_
          refine AWp.cond rfl (fun e => ?_) (fun e => ?_)
          · subst e
            have hlt : n < m := by unfold cmpS at h48; by_cases g1 : m < n <;> by_cases g2 : n < m <;> simp [g1, g2] at h48 <;> omega
            refine AWp.seq ?_
            refine AWp.regionD (fun o => writes o) mixed (by decide +kernel) rfl ?_
            refine pP rfl rfl rfl ?_
            refine pB rfl rfl rfl ?_
            refine pP rfl rfl rfl ?_
            refine pS rfl rfl rfl ?_
            refine pP rfl rfl rfl ?_
            refine pS rfl rfl rfl ?_
            refine AOps.call (less_fn m n hm (by omega)) rfl rfl rfl ⟨.inl rfl, .inl rfl, trivial⟩ ?_
            refine pP rfl rfl rfl ?_
            refine pI rfl rfl rfl ?_
            refine pT rfl rfl rfl ?_
            refine AOps.store tabOk (v := .dat (.st _ _)) rfl rfl rfl rfl rfl rfl rfl rfl rfl rfl rfl rfl rfl ?_
            refine AOps.done ?_
            refine AWp.ret ?_
            exact ⟨_, rfl, by rw [← w1, ← w2, sumS, if_neg h0, if_neg g0, if_neg hst, if_neg hmn, if_pos hlt]; rfl⟩
          · subst e
            have hlt : ¬ (n < m) := by intro g; unfold cmpS at h48; simp [g, Nat.lt_asymm g] at h48
            refine AWp.skip ?_
            refine AWp.seq ?_
            refine AWp.regionD (fun o => writes o) mixed (by decide +kernel) rfl ?_
            refine pP rfl rfl rfl ?_
            refine pB rfl rfl rfl ?_
            refine pP rfl rfl rfl ?_
            refine pS rfl rfl rfl ?_
            refine pP rfl rfl rfl ?_
            refine pS rfl rfl rfl ?_
            refine AOps.call (less_fn n m hn (by omega)) rfl rfl rfl ⟨.inl rfl, .inl rfl, trivial⟩ ?_
            refine pP rfl rfl rfl ?_
            refine pI rfl rfl rfl ?_
            refine pT rfl rfl rfl ?_
            refine AOps.store tabOk (v := .dat (.st _ _)) rfl rfl rfl rfl rfl rfl rfl rfl rfl rfl rfl rfl rfl ?_
            refine AOps.done ?_
            refine AWp.ret ?_
            exact ⟨_, rfl, by rw [← w1, ← w2, sumS, if_neg h0, if_neg g0, if_neg hst, if_neg hmn, if_neg hlt]; rfl⟩

theorem refmul_fn (a1 a2 b1 b2 : Int) (h1 : inI a1) (h2 : inI a2) (h3 : inI b1) (h4 : inI b2) : AFn prog 27 [.st [1, 1] [.v (.int .i64 a1), .v (.int .i64 a2)], .st [1, 1] [.v (.int .i64 b1), .v (.int .i64 b2)]] (ansD (mulS (a1, a2) (b1, b2))) false := by
  have l1 := len64 (abs_lt h1)
  have l2 := len64 (abs_lt h2)
  have l3 := len64 (abs_lt h3)
  have l4 := len64 (abs_lt h4)
  refine AFn.intro' (L := [(0, .dat (.st [1, 1] [.v (.int .i64 a1), .v (.int .i64 a2)])), (1, .dat (.st [1, 1] [.v (.int .i64 b1), .v (.int .i64 b2)]))]) tabOk Try.func27 rfl rfl Try.ntmps27 rfl rfl rfl ?_
  refine AWp.seq ?_
  refine AWp.regionN (fun _ => false) rfl ?_
  refine AOps.box (v := .dat (.st _ _)) rfl rfl rfl rfl rfl rfl ?_
  refine AOps.box (v := .dat (.st _ _)) rfl rfl rfl rfl rfl rfl ?_
  refine AOps.alloc tabOk rfl rfl rfl rfl rfl ?_
  refine pI rfl rfl rfl ?_
  refine AOps.done ?_
  refine AWp.seq ?_
  refine AWp.seq ?_
  refine AWp.regionN (fun _ => false) rfl ?_
  refine pT rfl rfl rfl ?_
  refine AOps.call (refright_fn a1 a2 h1 h2) rfl rfl rfl ⟨.inl rfl, trivial⟩ ?_
  refine AOps.b tabOk rfl rfl rfl (fun c8 h8 => ?_)
  refine pB rfl rfl rfl ?_
  cases c8
  · -- c8 = false
    have hr1 : rightS a1 a2 = true := by simpa using h8
    refine pT rfl rfl rfl ?_
    refine AOps.call (refright_fn b1 b2 h3 h4) rfl rfl rfl ⟨.inl rfl, trivial⟩ ?_
    refine AOps.b tabOk rfl rfl rfl (fun c12 h12 => ?_)
    refine pB rfl rfl rfl ?_
    refine AOps.done ?_
    refine AWp.cond rfl (fun e => ?_) (fun e => ?_)
    · subst e
      have hr : rightS b1 b2 = false := by simpa using h12
      refine AWp.seq ?_
      refine AWp.regionN (fun o => writes o) rfl ?_
      refine pT rfl rfl rfl ?_
      refine AOps.store tabOk (v := .dat (.st _ _)) rfl rfl rfl rfl rfl rfl rfl rfl rfl rfl rfl rfl rfl ?_
      refine pI rfl rfl rfl ?_
      refine AOps.done ?_
      refine AWp.ret ?_
      exact ⟨_, rfl, by rw [mulS, if_neg (by simp [hr])]; rfl⟩
    · subst e
      have hr2 : rightS b1 b2 = true := by simpa using h12
      obtain ⟨p1, p2, p3⟩ := rightS_spec.1 hr1
      obtain ⟨q1, q2, q3⟩ := rightS_spec.1 hr2
      refine AWp.skip ?_
      refine AWp.seq ?_
      refine AWp.regionD (fun o => writes o) mixed (by decide +kernel) rfl ?_
      refine pP rfl rfl rfl ?_
      refine pI rfl rfl rfl ?_
      refine AOps.b tabOk rfl rfl rfl (fun c17 h17 => ?_)
      refine pP rfl rfl rfl ?_
      refine pI rfl rfl rfl ?_
      refine AOps.b tabOk rfl rfl rfl (fun c20 h20 => ?_)
      refine AOps.b tabOk rfl rfl rfl (fun c21 h21 => ?_)
      refine pP rfl rfl rfl ?_
      refine pI rfl rfl rfl ?_
      refine AOps.call (size_fn a1 h1) rfl rfl rfl ⟨.inl rfl, trivial⟩ ?_
      refine pP rfl rfl rfl ?_
      refine pI rfl rfl rfl ?_
      refine AOps.call (size_fn b1 h3) rfl rfl rfl ⟨.inl rfl, trivial⟩ ?_
      refine AOps.call (by_fn a1.natAbs b1.natAbs (by omega) (by omega)) rfl rfl rfl ⟨.inl rfl, .inl rfl, trivial⟩ ?_
      refine pP rfl rfl rfl ?_
      refine pI rfl rfl rfl ?_
      refine AOps.call (size_fn a2 h2) rfl rfl rfl ⟨.inl rfl, trivial⟩ ?_
      refine pP rfl rfl rfl ?_
      refine pI rfl rfl rfl ?_
      refine AOps.call (size_fn b2 h4) rfl rfl rfl ⟨.inl rfl, trivial⟩ ?_
      refine AOps.call (by_fn a2.natAbs b2.natAbs (by omega) (by omega)) rfl rfl rfl ⟨.inl rfl, .inl rfl, trivial⟩ ?_
      refine AOps.call (ratof_fn _ (a1.natAbs * b1.natAbs) (a2.natAbs * b2.natAbs) (mul_len4 l1 l3) (mul_len4 l2 l4) (Nat.mul_ne_zero (by omega) (by omega))) rfl rfl rfl ⟨.inl rfl, .inl rfl, .inl rfl, trivial⟩ ?_
      refine pT rfl rfl rfl ?_
      refine pI rfl rfl rfl ?_
      refine AOps.store tabOk (v := .dat (.st _ _)) rfl rfl rfl rfl rfl rfl rfl rfl rfl rfl rfl rfl rfl ?_
      refine pI rfl rfl rfl ?_
      refine AOps.done ?_
      refine AWp.ret ?_
      exact ⟨_, rfl, by rw [mulS, if_pos (by simp [hr1, hr2]), ← h21, ← h17, ← h20]; rfl⟩
  · -- c8 = true
    have hr : rightS a1 a2 = false := by simpa using h8
    refine AOps.off rfl rfl ?_
    refine AOps.off rfl rfl ?_
    refine AOps.off rfl rfl ?_
    refine pB rfl rfl rfl ?_
    refine AOps.done ?_
    refine AWp.condT rfl ?_
    refine AWp.seq ?_
    refine AWp.regionN (fun o => writes o) rfl ?_
    refine pT rfl rfl rfl ?_
    refine AOps.store tabOk (v := .dat (.st _ _)) rfl rfl rfl rfl rfl rfl rfl rfl rfl rfl rfl rfl rfl ?_
    refine pI rfl rfl rfl ?_
    refine AOps.done ?_
    refine AWp.ret ?_
    exact ⟨_, rfl, by rw [mulS, if_neg (by simp [hr])]; rfl⟩

theorem refadd_fn (a1 a2 b1 b2 : Int) (h1 : inI a1) (h2 : inI a2) (h3 : inI b1) (h4 : inI b2) : AFn prog 23 [.st [1, 1] [.v (.int .i64 a1), .v (.int .i64 a2)], .st [1, 1] [.v (.int .i64 b1), .v (.int .i64 b2)]] (ansD (addS (a1, a2) (b1, b2))) false := by
  have l1 := len64 (abs_lt h1)
  have l2 := len64 (abs_lt h2)
  have l3 := len64 (abs_lt h3)
  have l4 := len64 (abs_lt h4)
  refine AFn.intro' (L := [(0, .dat (.st [1, 1] [.v (.int .i64 a1), .v (.int .i64 a2)])), (1, .dat (.st [1, 1] [.v (.int .i64 b1), .v (.int .i64 b2)]))]) tabOk Try.func23 rfl rfl Try.ntmps23 rfl rfl rfl ?_
  refine AWp.seq ?_
  refine AWp.regionN (fun _ => false) rfl ?_
  refine AOps.box (v := .dat (.st _ _)) rfl rfl rfl rfl rfl rfl ?_
  refine AOps.box (v := .dat (.st _ _)) rfl rfl rfl rfl rfl rfl ?_
  refine AOps.alloc tabOk rfl rfl rfl rfl rfl ?_
  refine pI rfl rfl rfl ?_
  refine AOps.done ?_
  refine AWp.seq ?_
  refine AWp.seq ?_
  refine AWp.regionN (fun _ => false) rfl ?_
  refine pT rfl rfl rfl ?_
  refine AOps.call (refright_fn a1 a2 h1 h2) rfl rfl rfl ⟨.inl rfl, trivial⟩ ?_
  refine AOps.b tabOk rfl rfl rfl (fun c9 h9 => ?_)
  refine pB rfl rfl rfl ?_
  cases c9
  · -- c9 = false
    have hr1 : rightS a1 a2 = true := by simpa using h9
    refine pT rfl rfl rfl ?_
    refine AOps.call (refright_fn b1 b2 h3 h4) rfl rfl rfl ⟨.inl rfl, trivial⟩ ?_
    refine AOps.b tabOk rfl rfl rfl (fun c13 h13 => ?_)
    refine pB rfl rfl rfl ?_
    refine AOps.done ?_
    refine AWp.cond rfl (fun e => ?_) (fun e => ?_)
    · subst e
      have hr : rightS b1 b2 = false := by simpa using h13
      refine AWp.seq ?_
      refine AWp.regionN (fun o => writes o) rfl ?_
      refine pT rfl rfl rfl ?_
      refine AOps.store tabOk (v := .dat (.st _ _)) rfl rfl rfl rfl rfl rfl rfl rfl rfl rfl rfl rfl rfl ?_
      refine pI rfl rfl rfl ?_
      refine AOps.done ?_
      refine AWp.ret ?_
      exact ⟨_, rfl, by rw [addS, if_neg (by simp [hr])]; rfl⟩
    · subst e
      have hr2 : rightS b1 b2 = true := by simpa using h13
      obtain ⟨p1, p2, p3⟩ := rightS_spec.1 hr1
      obtain ⟨q1, q2, q3⟩ := rightS_spec.1 hr2
      refine AWp.skip ?_
      refine AWp.seq ?_
      refine AWp.regionD (fun o => writes o) mixed (by decide +kernel) rfl ?_
      refine pP rfl rfl rfl ?_
      refine pI rfl rfl rfl ?_
      refine AOps.call (num_fn a1 h1) rfl rfl rfl ⟨.inl rfl, trivial⟩ ?_
      refine pP rfl rfl rfl ?_
      refine pI rfl rfl rfl ?_
      refine AOps.call (num_fn b2 h4) rfl rfl rfl ⟨.inl rfl, trivial⟩ ?_
      refine AOps.call (product_fn _ _ a1.natAbs b2.natAbs l1 l4) rfl rfl rfl ⟨.inl rfl, .inl rfl, trivial⟩ ?_
      refine pP rfl rfl rfl ?_
      refine pI rfl rfl rfl ?_
      refine AOps.call (num_fn b1 h3) rfl rfl rfl ⟨.inl rfl, trivial⟩ ?_
      refine pP rfl rfl rfl ?_
      refine pI rfl rfl rfl ?_
      refine AOps.call (num_fn a2 h2) rfl rfl rfl ⟨.inl rfl, trivial⟩ ?_
      refine AOps.call (product_fn _ _ b1.natAbs a2.natAbs l3 l2) rfl rfl rfl ⟨.inl rfl, .inl rfl, trivial⟩ ?_
      refine AOps.call (sum_fn _ _ (a1.natAbs * b2.natAbs) (b1.natAbs * a2.natAbs) (mul_len l1 l4) (mul_len l3 l2) (fun h => by simp [h]) (fun h => by simp [h])) rfl rfl rfl ⟨.inl rfl, .inl rfl, trivial⟩ ?_
      refine AOps.alloc tabOk rfl rfl rfl rfl rfl ?_
      refine AOps.store tabOk (v := .dat (.st _ _)) rfl rfl rfl rfl rfl rfl rfl rfl rfl rfl rfl rfl rfl ?_
      refine AOps.done ?_
      refine AWp.seq ?_
      refine AWp.regionD (fun o => writes o) mixed (by decide +kernel) rfl ?_
      refine pP rfl rfl rfl ?_
      refine pB rfl rfl rfl ?_
      refine pP rfl rfl rfl ?_
      refine pS rfl rfl rfl ?_
      refine pP rfl rfl rfl ?_
      refine pI rfl rfl rfl ?_
      refine AOps.call (size_fn a2 h2) rfl rfl rfl ⟨.inl rfl, trivial⟩ ?_
      refine pP rfl rfl rfl ?_
      refine pI rfl rfl rfl ?_
      refine AOps.call (size_fn b2 h4) rfl rfl rfl ⟨.inl rfl, trivial⟩ ?_
      refine AOps.call (by_fn a2.natAbs b2.natAbs (by omega) (by omega)) rfl rfl rfl ⟨.inl rfl, .inl rfl, trivial⟩ ?_
      refine AOps.call (ratof_fn _ _ (a2.natAbs * b2.natAbs) (add_len (mul_lt4 l1 l4) (mul_lt4 l3 l2)) (mul_len4 l2 l4) (Nat.mul_ne_zero (by omega) (by omega))) rfl rfl rfl ⟨.inl rfl, .inl rfl, .inl rfl, trivial⟩ ?_
      refine pT rfl rfl rfl ?_
      refine pI rfl rfl rfl ?_
      refine AOps.store tabOk (v := .dat (.st _ _)) rfl rfl rfl rfl rfl rfl rfl rfl rfl rfl rfl rfl rfl ?_
      refine pI rfl rfl rfl ?_
      refine AOps.done ?_
      refine AWp.ret ?_
      exact ⟨_, rfl, by rw [addS, if_pos (by simp [hr1, hr2]), ← prod_val q1, ← prod_val p1]; rfl⟩
  · -- c9 = true
    have hr : rightS a1 a2 = false := by simpa using h9
    refine AOps.off rfl rfl ?_
    refine AOps.off rfl rfl ?_
    refine AOps.off rfl rfl ?_
    refine pB rfl rfl rfl ?_
    refine AOps.done ?_
    refine AWp.condT rfl ?_
    refine AWp.seq ?_
    refine AWp.regionN (fun o => writes o) rfl ?_
    refine pT rfl rfl rfl ?_
    refine AOps.store tabOk (v := .dat (.st _ _)) rfl rfl rfl rfl rfl rfl rfl rfl rfl rfl rfl rfl rfl ?_
    refine pI rfl rfl rfl ?_
    refine AOps.done ?_
    refine AWp.ret ?_
    exact ⟨_, rfl, by rw [addS, if_neg (by simp [hr])]; rfl⟩

theorem refsub_fn (a1 a2 b1 b2 : Int) (h1 : inI a1) (h2 : inI a2) (h3 : inI b1) (h4 : inI b2) : AFn prog 25 [.st [1, 1] [.v (.int .i64 a1), .v (.int .i64 a2)], .st [1, 1] [.v (.int .i64 b1), .v (.int .i64 b2)]] (ansD (subS (a1, a2) (b1, b2))) false := by
  refine AFn.intro' (L := [(0, .dat (.st [1, 1] [.v (.int .i64 a1), .v (.int .i64 a2)])), (1, .dat (.st [1, 1] [.v (.int .i64 b1), .v (.int .i64 b2)]))]) tabOk Try.func25 rfl rfl Try.ntmps25 rfl rfl rfl ?_
  refine AWp.seq ?_
  refine AWp.regionN (fun _ => false) rfl ?_
  refine AOps.box (v := .dat (.st _ _)) rfl rfl rfl rfl rfl rfl ?_
  refine AOps.box (v := .dat (.st _ _)) rfl rfl rfl rfl rfl rfl ?_
  refine AOps.alloc tabOk rfl rfl rfl rfl rfl ?_
  refine pI rfl rfl rfl ?_
  refine AOps.done ?_
  refine AWp.seq ?_
  refine AWp.seq ?_
  refine AWp.regionN (fun _ => false) rfl ?_
  refine pT rfl rfl rfl ?_
  refine AOps.call (refright_fn b1 b2 h3 h4) rfl rfl rfl ⟨.inl rfl, trivial⟩ ?_
  refine AOps.b tabOk rfl rfl rfl (fun c8 h8 => ?_)
  refine AOps.done ?_
  refine AWp.cond rfl (fun e => ?_) (fun e => ?_)
  · subst e
    have hr : rightS b1 b2 = false := by simpa using h8
    refine AWp.seq ?_
    refine AWp.regionN (fun o => writes o) rfl ?_
    refine pT rfl rfl rfl ?_
    refine AOps.store tabOk (v := .dat (.st _ _)) rfl rfl rfl rfl rfl rfl rfl rfl rfl rfl rfl rfl rfl ?_
    refine pI rfl rfl rfl ?_
    refine AOps.done ?_
    refine AWp.ret ?_
    exact ⟨_, rfl, by rw [subS, if_neg (by simp [hr])]; rfl⟩
  · subst e
    have hr2 : rightS b1 b2 = true := by simpa using h8
    obtain ⟨q1, q2, q3⟩ := rightS_spec.1 hr2
    refine AWp.skip ?_
    refine AWp.seq ?_
    refine AWp.regionN (fun o => writes o) rfl ?_
    refine pT rfl rfl rfl ?_
    refine pP rfl rfl rfl ?_
    refine pI rfl rfl rfl ?_
    refine AOps.i tabOk rfl rfl rfl (j := -b1) (by unfold inI at h3; rw [wi (by omega) (by omega)]; omega) ?_
    refine pP rfl rfl rfl ?_
    refine pI rfl rfl rfl ?_
    refine pT rfl rfl rfl ?_
    refine AOps.call (refadd_fn a1 a2 (-b1) b2 h1 h2 (by unfold inI at h3 ⊢; omega) h4) rfl rfl rfl ⟨.inl rfl, .inl rfl, trivial⟩ ?_
    refine pT rfl rfl rfl ?_
    refine pI rfl rfl rfl ?_
    refine AOps.store tabOk (v := .dat (.st _ _)) rfl rfl rfl rfl rfl rfl rfl rfl rfl rfl rfl rfl rfl ?_
    refine pI rfl rfl rfl ?_
    refine AOps.done ?_
    refine AWp.ret ?_
    exact ⟨_, rfl, by rw [subS, if_pos hr2]; rfl⟩

theorem refdiv_fn (a1 a2 b1 b2 : Int) (h1 : inI a1) (h2 : inI a2) (h3 : inI b1) (h4 : inI b2) : AFn prog 29 [.st [1, 1] [.v (.int .i64 a1), .v (.int .i64 a2)], .st [1, 1] [.v (.int .i64 b1), .v (.int .i64 b2)]] (ansD (divS (a1, a2) (b1, b2))) false := by
  have l1 := len64 (abs_lt h1)
  have l2 := len64 (abs_lt h2)
  have l3 := len64 (abs_lt h3)
  have l4 := len64 (abs_lt h4)
  refine AFn.intro' (L := [(0, .dat (.st [1, 1] [.v (.int .i64 a1), .v (.int .i64 a2)])), (1, .dat (.st [1, 1] [.v (.int .i64 b1), .v (.int .i64 b2)]))]) tabOk Try.func29 rfl rfl Try.ntmps29 rfl rfl rfl ?_
  refine AWp.seq ?_
  refine AWp.regionN (fun _ => false) rfl ?_
  refine AOps.box (v := .dat (.st _ _)) rfl rfl rfl rfl rfl rfl ?_
  refine AOps.box (v := .dat (.st _ _)) rfl rfl rfl rfl rfl rfl ?_
  refine AOps.alloc tabOk rfl rfl rfl rfl rfl ?_
  refine pI rfl rfl rfl ?_
  refine AOps.done ?_
  refine AWp.seq ?_
  refine AWp.seq ?_
  refine AWp.regionN (fun _ => false) rfl ?_
  refine pT rfl rfl rfl ?_
  refine AOps.call (refright_fn a1 a2 h1 h2) rfl rfl rfl ⟨.inl rfl, trivial⟩ ?_
  refine AOps.b tabOk rfl rfl rfl (fun c8 h8 => ?_)
  refine pB rfl rfl rfl ?_
  cases c8
  · -- c8 = false
    have hr1 : rightS a1 a2 = true := by simpa using h8
    refine pT rfl rfl rfl ?_
    refine AOps.call (refright_fn b1 b2 h3 h4) rfl rfl rfl ⟨.inl rfl, trivial⟩ ?_
    refine AOps.b tabOk rfl rfl rfl (fun c12 h12 => ?_)
    refine pB rfl rfl rfl ?_
    refine AOps.done ?_
    refine AWp.cond rfl (fun e => ?_) (fun e => ?_)
    · subst e
      have hr : rightS b1 b2 = false := by simpa using h12
      refine AWp.seq ?_
      refine AWp.regionN (fun o => writes o) rfl ?_
      refine pT rfl rfl rfl ?_
      refine AOps.store tabOk (v := .dat (.st _ _)) rfl rfl rfl rfl rfl rfl rfl rfl rfl rfl rfl rfl rfl ?_
      refine pI rfl rfl rfl ?_
      refine AOps.done ?_
      refine AWp.ret ?_
      exact ⟨_, rfl, by rw [divS, if_neg (by simp [hr])]; rfl⟩
    · subst e
      have hr2 : rightS b1 b2 = true := by simpa using h12
      obtain ⟨p1, p2, p3⟩ := rightS_spec.1 hr1
      obtain ⟨q1, q2, q3⟩ := rightS_spec.1 hr2
      refine AWp.skip ?_
      refine AWp.seq ?_
      refine AWp.seq ?_
      refine AWp.regionN (fun _ => false) rfl ?_
      refine pP rfl rfl rfl ?_
      refine pI rfl rfl rfl ?_
      refine AOps.b tabOk rfl rfl rfl (fun c17 h17 => ?_)
      refine AOps.done ?_
      refine AWp.cond rfl (fun e => ?_) (fun e => ?_)
      · subst e
        have h0 : b1 = 0 := by simpa using h17
        refine AWp.seq ?_
        refine AWp.regionN (fun o => writes o) rfl ?_
        refine pT rfl rfl rfl ?_
        refine AOps.store tabOk (v := .dat (.st _ _)) rfl rfl rfl rfl rfl rfl rfl rfl rfl rfl rfl rfl rfl ?_
        refine pI rfl rfl rfl ?_
        refine AOps.done ?_
        refine AWp.ret ?_
        exact ⟨_, rfl, by rw [divS, if_pos (by simp [hr1, hr2]), if_pos h0]; rfl⟩
      · subst e
        have h0 : b1 ≠ 0 := by simpa using h17
        refine AWp.skip ?_
        refine AWp.seq ?_
        refine AWp.regionD (fun o => writes o) mixed (by decide +kernel) rfl ?_
        refine pP rfl rfl rfl ?_
        refine pI rfl rfl rfl ?_
        refine AOps.b tabOk rfl rfl rfl (fun c21 h21 => ?_)
        refine pP rfl rfl rfl ?_
        refine pI rfl rfl rfl ?_
        refine AOps.b tabOk rfl rfl rfl (fun c24 h24 => ?_)
        refine AOps.b tabOk rfl rfl rfl (fun c25 h25 => ?_)
        refine pP rfl rfl rfl ?_
        refine pI rfl rfl rfl ?_
        refine AOps.call (size_fn a1 h1) rfl rfl rfl ⟨.inl rfl, trivial⟩ ?_
        refine pP rfl rfl rfl ?_
        refine pI rfl rfl rfl ?_
        refine AOps.call (size_fn b2 h4) rfl rfl rfl ⟨.inl rfl, trivial⟩ ?_
        refine AOps.call (by_fn a1.natAbs b2.natAbs (by omega) (by omega)) rfl rfl rfl ⟨.inl rfl, .inl rfl, trivial⟩ ?_
        refine pP rfl rfl rfl ?_
        refine pI rfl rfl rfl ?_
        refine AOps.call (size_fn a2 h2) rfl rfl rfl ⟨.inl rfl, trivial⟩ ?_
        refine pP rfl rfl rfl ?_
        refine pI rfl rfl rfl ?_
        refine AOps.call (size_fn b1 h3) rfl rfl rfl ⟨.inl rfl, trivial⟩ ?_
        refine AOps.call (by_fn a2.natAbs b1.natAbs (by omega) (by omega)) rfl rfl rfl ⟨.inl rfl, .inl rfl, trivial⟩ ?_
        refine AOps.call (ratof_fn _ (a1.natAbs * b2.natAbs) (a2.natAbs * b1.natAbs) (mul_len4 l1 l4) (mul_len4 l2 l3) (Nat.mul_ne_zero (by omega) (by omega))) rfl rfl rfl ⟨.inl rfl, .inl rfl, .inl rfl, trivial⟩ ?_
        refine pT rfl rfl rfl ?_
        refine pI rfl rfl rfl ?_
        refine AOps.store tabOk (v := .dat (.st _ _)) rfl rfl rfl rfl rfl rfl rfl rfl rfl rfl rfl rfl rfl ?_
        refine pI rfl rfl rfl ?_
        refine AOps.done ?_
        refine AWp.ret ?_
        exact ⟨_, rfl, by rw [divS, if_pos (by simp [hr1, hr2]), if_neg h0, ← h25, ← h21, ← h24]; rfl⟩
  · -- c8 = true
    have hr : rightS a1 a2 = false := by simpa using h8
    refine AOps.off rfl rfl ?_
    refine AOps.off rfl rfl ?_
    refine AOps.off rfl rfl ?_
    refine pB rfl rfl rfl ?_
    refine AOps.done ?_
    refine AWp.condT rfl ?_
    refine AWp.seq ?_
    refine AWp.regionN (fun o => writes o) rfl ?_
    refine pT rfl rfl rfl ?_
    refine AOps.store tabOk (v := .dat (.st _ _)) rfl rfl rfl rfl rfl rfl rfl rfl rfl rfl rfl rfl rfl ?_
    refine pI rfl rfl rfl ?_
    refine AOps.done ?_
    refine AWp.ret ?_
    exact ⟨_, rfl, by rw [divS, if_neg (by simp [hr])]; rfl⟩

end Go.Sim.Ytnhflokfcnfegaa
