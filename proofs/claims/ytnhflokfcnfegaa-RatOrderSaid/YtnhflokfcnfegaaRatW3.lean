/- What is proved: what the document's sums, differences, products and quotients compute. -/
import Derived.Test.YtnhflokfcnfegaaRatW2
import Derived.Test.YtnhflokfcnfegaaRatN
namespace Go.Sim.Ytnhflokfcnfegaa
open Go.RowKit Go.Proofs Go.Proofs.Try

theorem sum_fn (s t : Bool) (m n : Nat) (hm : (dig m).length ≤ 100000) (hn : (dig n).length ≤ 100000) (hs : m = 0 → s = false) (ht : n = 0 → t = false) : AFn prog 57 [numD s m, numD t n] (numD (decide ((valS s m + valS t n) < 0)) (valS s m + valS t n).natAbs) false := by
  obtain ⟨w1, w2⟩ := sum_val hs ht
  refine AFn.intro' (L := [(0, .dat (numD s m)), (1, .dat (numD t n))]) tabOk Try.func57 rfl rfl Try.ntmps57 rfl rfl rfl ?_
  refine AWp.seq ?_
  refine AWp.regionN (fun _ => false) rfl ?_
  refine AOps.box (v := .dat (.st _ _)) rfl rfl rfl rfl rfl rfl ?_
  refine AOps.box (v := .dat (.st _ _)) rfl rfl rfl rfl rfl rfl ?_
  refine AOps.alloc tabOk rfl rfl rfl rfl rfl ?_
  refine AOps.done ?_
  refine AWp.seq ?_
  refine AWp.seq ?_
  refine AWp.regionN (fun _ => false) rfl ?_
  refine pP rfl rfl rfl ?_
  refine pS rfl rfl rfl ?_
  refine pI rfl rfl rfl ?_
  refine AOps.b tabOk rfl rfl rfl (fun c11 h11 => ?_)
  refine AOps.done ?_
  refine AWp.cond rfl (fun e => ?_) (fun e => ?_)
  · subst e
    have h0 : m = 0 := by have := h11; simp [bl] at this; exact dig_nil.1 this
    refine AWp.seq ?_
    refine AWp.regionN (fun o => writes o) rfl ?_
    refine pT rfl rfl rfl ?_
    refine AOps.store tabOk (v := .dat (.st _ _)) rfl rfl rfl rfl rfl rfl rfl rfl rfl rfl rfl rfl rfl ?_
    refine AOps.done ?_
    refine AWp.ret ?_
    exact ⟨_, rfl, by rw [← w1, ← w2, sumS, if_pos h0]; rfl⟩
  · subst e
    have h0 : m ≠ 0 := by rintro rfl; simp [bl, dig_zero] at h11
    refine AWp.skip ?_
    refine AWp.seq ?_
    refine AWp.seq ?_
    refine AWp.regionN (fun _ => false) rfl ?_
    refine pP rfl rfl rfl ?_
    refine pS rfl rfl rfl ?_
    refine pI rfl rfl rfl ?_
    refine AOps.b tabOk rfl rfl rfl (fun c16 h16 => ?_)
    refine AOps.done ?_
    refine AWp.cond rfl (fun e => ?_) (fun e => ?_)
    · subst e
      have g0 : n = 0 := by have := h16; simp [bl] at this; exact dig_nil.1 this
      refine AWp.seq ?_
      refine AWp.regionN (fun o => writes o) rfl ?_
      refine pT rfl rfl rfl ?_
      refine AOps.store tabOk (v := .dat (.st _ _)) rfl rfl rfl rfl rfl rfl rfl rfl rfl rfl rfl rfl rfl ?_
      refine AOps.done ?_
      refine AWp.ret ?_
      exact ⟨_, rfl, by rw [← w1, ← w2, sumS, if_neg h0, if_pos g0]; rfl⟩
    · subst e
      have g0 : n ≠ 0 := by rintro rfl; simp [bl, dig_zero] at h16
      refine AWp.skip ?_
      refine AWp.seq ?_
      refine AWp.regionN (fun o => writes o) rfl ?_
      refine pT rfl rfl rfl ?_
      refine pT rfl rfl rfl ?_
      refine AOps.call (level_fn s t m n) rfl rfl rfl ⟨.inl rfl, .inl rfl, trivial⟩ ?_
      refine pU rfl rfl rfl ?_
      refine pT rfl rfl rfl ?_
      refine pT rfl rfl rfl ?_
      refine AOps.alloc tabOk rfl rfl rfl rfl rfl ?_
      refine AOps.alloc tabOk rfl rfl rfl rfl rfl ?_
      refine AOps.store tabOk (v := .dat (.st _ _)) rfl rfl rfl rfl rfl rfl rfl rfl rfl rfl rfl rfl rfl ?_
      refine AOps.store tabOk (v := .dat (.st _ _)) rfl rfl rfl rfl rfl rfl rfl rfl rfl rfl rfl rfl rfl ?_
      refine AOps.done ?_
      refine AWp.seq ?_
      refine AWp.seq ?_
      refine AWp.regionN (fun _ => false) rfl ?_
      refine pP rfl rfl rfl ?_
      refine pB rfl rfl rfl ?_
      refine pP rfl rfl rfl ?_
      refine pB rfl rfl rfl ?_
      refine AOps.b tabOk rfl rfl rfl (fun c28 h28 => ?_)
      refine AOps.done ?_
      refine AWp.cond rfl (fun e => ?_) (fun e => ?_)
      · subst e
        have hst : s = t := by simpa using h28
        refine AWp.seq ?_
        refine AWp.regionD (fun o => writes o) mixed (by decide +kernel) rfl ?_
        refine pP rfl rfl rfl ?_
        refine pB rfl rfl rfl ?_
        refine pP rfl rfl rfl ?_
        refine pS rfl rfl rfl ?_
        refine pP rfl rfl rfl ?_
        refine pS rfl rfl rfl ?_
        refine AOps.call (plus_fn m n hm hn) rfl rfl rfl ⟨.inl rfl, .inl rfl, trivial⟩ ?_
        refine pP rfl rfl rfl ?_
        refine pI rfl rfl rfl ?_
        refine pT rfl rfl rfl ?_
        refine AOps.store tabOk (v := .dat (.st _ _)) rfl rfl rfl rfl rfl rfl rfl rfl rfl rfl rfl rfl rfl ?_
        refine AOps.done ?_
        refine AWp.ret ?_
        exact ⟨_, rfl, by rw [← w1, ← w2, sumS, if_neg h0, if_neg g0, if_pos hst]; rfl⟩
      · subst e
        have hst : s ≠ t := by simpa using h28
        refine AWp.skip ?_
        refine AWp.seq ?_
        refine AWp.regionN (fun _ => false) rfl ?_
        refine pP rfl rfl rfl ?_
        refine pS rfl rfl rfl ?_
        refine pP rfl rfl rfl ?_
        refine pS rfl rfl rfl ?_
        refine AOps.call (cmp_fn m n (by omega) (by omega)) rfl rfl rfl ⟨.inl rfl, .inl rfl, trivial⟩ ?_
        refine pI rfl rfl rfl ?_
        refine AOps.done ?_
        refine AWp.seq ?_
        refine AWp.seq ?_
        refine AWp.regionN (fun _ => false) rfl ?_
        refine pI rfl rfl rfl ?_
        refine AOps.b tabOk rfl rfl rfl (fun c45 h45 => ?_)
        refine AOps.done ?_
        refine AWp.cond rfl (fun e => ?_) (fun e => ?_)
        · subst e
          have hmn : m = n := by have := cmpS_bd m n; unfold cmpS at h45; by_cases g1 : m < n <;> by_cases g2 : n < m <;> simp [g1, g2] at h45 <;> omega
          refine AWp.seq ?_
          refine AWp.regionN (fun o => writes o) rfl ?_
          refine pT rfl rfl rfl ?_
          refine AOps.store tabOk (v := .dat (.st _ _)) rfl rfl rfl rfl rfl rfl rfl rfl rfl rfl rfl rfl rfl ?_
          refine AOps.done ?_
          refine AWp.ret ?_
          exact ⟨_, rfl, by rw [← w1, ← w2, sumS, if_neg h0, if_neg g0, if_neg hst, if_pos hmn]; simp [numD, dig_zero, bl]; rfl⟩
        · subst e
          have hmn : m ≠ n := by rintro rfl; simp [cmpS] at h45
          refine AWp.skip ?_
          refine AWp.seq ?_
          refine AWp.seq ?_
          refine AWp.regionN (fun _ => false) rfl ?_
          refine pI rfl rfl rfl ?_
          refine AOps.b tabOk rfl rfl rfl (fun c48 h48 => ?_)
          refine AOps.done ?_
          refine AWp.cond rfl (fun e => ?_) (fun e => ?_)
          · subst e
            have hlt : n < m := by unfold cmpS at h48; by_cases g1 : m < n <;> by_cases g2 : n < m <;> simp [g1, g2] at h48 <;> omega
            refine AWp.seq ?_
            refine AWp.regionD (fun o => writes o) mixed (by decide +kernel) rfl ?_
            refine pP rfl rfl rfl ?_
            refine pB rfl rfl rfl ?_
            refine pP rfl rfl rfl ?_
            refine pS rfl rfl rfl ?_
            refine pP rfl rfl rfl ?_
            refine pS rfl rfl rfl ?_
            refine AOps.call (less_fn m n hm (by omega)) rfl rfl rfl ⟨.inl rfl, .inl rfl, trivial⟩ ?_
            refine pP rfl rfl rfl ?_
            refine pI rfl rfl rfl ?_
            refine pT rfl rfl rfl ?_
            refine AOps.store tabOk (v := .dat (.st _ _)) rfl rfl rfl rfl rfl rfl rfl rfl rfl rfl rfl rfl rfl ?_
            refine AOps.done ?_
            refine AWp.ret ?_
            exact ⟨_, rfl, by rw [← w1, ← w2, sumS, if_neg h0, if_neg g0, if_neg hst, if_neg hmn, if_pos hlt]; rfl⟩
          · subst e
            have hlt : ¬ (n < m) := by intro g; unfold cmpS at h48; simp [g, Nat.lt_asymm g] at h48
            refine AWp.skip ?_
            refine AWp.seq ?_
            refine AWp.regionD (fun o => writes o) mixed (by decide +kernel) rfl ?_
            refine pP rfl rfl rfl ?_
            refine pB rfl rfl rfl ?_
            refine pP rfl rfl rfl ?_
            refine pS rfl rfl rfl ?_
            refine pP rfl rfl rfl ?_
            refine pS rfl rfl rfl ?_
            refine AOps.call (less_fn n m hn (by omega)) rfl rfl rfl ⟨.inl rfl, .inl rfl, trivial⟩ ?_
            refine pP rfl rfl rfl ?_
            refine pI rfl rfl rfl ?_
            refine pT rfl rfl rfl ?_
            refine AOps.store tabOk (v := .dat (.st _ _)) rfl rfl rfl rfl rfl rfl rfl rfl rfl rfl rfl rfl rfl ?_
            refine AOps.done ?_
            refine AWp.ret ?_
            exact ⟨_, rfl, by rw [← w1, ← w2, sumS, if_neg h0, if_neg g0, if_neg hst, if_neg hmn, if_neg hlt]; rfl⟩

theorem refmul_fn (a1 a2 b1 b2 : Int) (h1 : inI a1) (h2 : inI a2) (h3 : inI b1) (h4 : inI b2) : AFn prog 27 [.st [1, 1] [.v (.int .i64 a1), .v (.int .i64 a2)], .st [1, 1] [.v (.int .i64 b1), .v (.int .i64 b2)]] (ansD (mulS (a1, a2) (b1, b2))) false := by
  have l1 := len64 (abs_lt h1)
  have l2 := len64 (abs_lt h2)
  have l3 := len64 (abs_lt h3)
  have l4 := len64 (abs_lt h4)
  refine AFn.intro' (L := [(0, .dat (.st [1, 1] [.v (.int .i64 a1), .v (.int .i64 a2)])), (1, .dat (.st [1, 1] [.v (.int .i64 b1), .v (.int .i64 b2)]))]) tabOk Try.func27 rfl rfl Try.ntmps27 rfl rfl rfl ?_
  refine AWp.seq ?_
  refine AWp.regionN (fun _ => false) rfl ?_
  refine AOps.box (v := .dat (.st _ _)) rfl rfl rfl rfl rfl rfl ?_
  refine AOps.box (v := .dat (.st _ _)) rfl rfl rfl rfl rfl rfl ?_
  refine AOps.alloc tabOk rfl rfl rfl rfl rfl ?_
  refine pI rfl rfl rfl ?_
  refine AOps.done ?_
  refine AWp.seq ?_
  refine AWp.seq ?_
  refine AWp.regionN (fun _ => false) rfl ?_
  refine pT rfl rfl rfl ?_
  refine AOps.call (refright_fn a1 a2 h1 h2) rfl rfl rfl ⟨.inl rfl, trivial⟩ ?_
  refine AOps.b tabOk rfl rfl rfl (fun c8 h8 => ?_)
  refine pB rfl rfl rfl ?_
  cases c8
  · -- c8 = false
    have hr1 : rightS a1 a2 = true := by simpa using h8
    refine pT rfl rfl rfl ?_
    refine AOps.call (refright_fn b1 b2 h3 h4) rfl rfl rfl ⟨.inl rfl, trivial⟩ ?_
    refine AOps.b tabOk rfl rfl rfl (fun c12 h12 => ?_)
    refine pB rfl rfl rfl ?_
    refine AOps.done ?_
    refine AWp.cond rfl (fun e => ?_) (fun e => ?_)
    · subst e
      have hr : rightS b1 b2 = false := by simpa using h12
      refine AWp.seq ?_
      refine AWp.regionN (fun o => writes o) rfl ?_
      refine pT rfl rfl rfl ?_
      refine AOps.store tabOk (v := .dat (.st _ _)) rfl rfl rfl rfl rfl rfl rfl rfl rfl rfl rfl rfl rfl ?_
      refine pI rfl rfl rfl ?_
      refine AOps.done ?_
      refine AWp.ret ?_
      exact ⟨_, rfl, by rw [mulS, if_neg (by simp [hr])]; rfl⟩
    · subst e
      have hr2 : rightS b1 b2 = true := by simpa using h12
      obtain ⟨p1, p2, p3⟩ := rightS_spec.1 hr1
      obtain ⟨q1, q2, q3⟩ := rightS_spec.1 hr2
      refine AWp.skip ?_
      refine AWp.seq ?_
      refine AWp.regionD (fun o => writes o) mixed (by decide +kernel) rfl ?_
      refine pP rfl rfl rfl ?_
      refine pI rfl rfl rfl ?_
      refine AOps.b tabOk rfl rfl rfl (fun c17 h17 => ?_)
      refine pP rfl rfl rfl ?_
      refine pI rfl rfl rfl ?_
      refine AOps.b tabOk rfl rfl rfl (fun c20 h20 => ?_)
      refine AOps.b tabOk rfl rfl rfl (fun c21 h21 => ?_)
      refine pP rfl rfl rfl ?_
      refine pI rfl rfl rfl ?_
      refine AOps.call (size_fn a1 h1) rfl rfl rfl ⟨.inl rfl, trivial⟩ ?_
      refine pP rfl rfl rfl ?_
      refine pI rfl rfl rfl ?_
      refine AOps.call (size_fn b1 h3) rfl rfl rfl ⟨.inl rfl, trivial⟩ ?_
      refine AOps.call (by_fn a1.natAbs b1.natAbs (by omega) (by omega)) rfl rfl rfl ⟨.inl rfl, .inl rfl, trivial⟩ ?_
      refine pP rfl rfl rfl ?_
      refine pI rfl rfl rfl ?_
      refine AOps.call (size_fn a2 h2) rfl rfl rfl ⟨.inl rfl, trivial⟩ ?_
      refine pP rfl rfl rfl ?_
      refine pI rfl rfl rfl ?_
      refine AOps.call (size_fn b2 h4) rfl rfl rfl ⟨.inl rfl, trivial⟩ ?_
      refine AOps.call (by_fn a2.natAbs b2.natAbs (by omega) (by omega)) rfl rfl rfl ⟨.inl rfl, .inl rfl, trivial⟩ ?_
      refine AOps.call (ratof_fn _ (a1.natAbs * b1.natAbs) (a2.natAbs * b2.natAbs) (mul_len4 l1 l3) (mul_len4 l2 l4) (Nat.mul_ne_zero (by omega) (by omega))) rfl rfl rfl ⟨.inl rfl, .inl rfl, .inl rfl, trivial⟩ ?_
      refine pT rfl rfl rfl ?_
      refine pI rfl rfl rfl ?_
      refine AOps.store tabOk (v := .dat (.st _ _)) rfl rfl rfl rfl rfl rfl rfl rfl rfl rfl rfl rfl rfl ?_
      refine pI rfl rfl rfl ?_
      refine AOps.done ?_
      refine AWp.ret ?_
      exact ⟨_, rfl, by rw [mulS, if_pos (by simp [hr1, hr2]), ← h21, ← h17, ← h20]; rfl⟩
  · -- c8 = true
    have hr : rightS a1 a2 = false := by simpa using h8
    refine AOps.off rfl rfl ?_
    refine AOps.off rfl rfl ?_
    refine AOps.off rfl rfl ?_
    refine pB rfl rfl rfl ?_
    refine AOps.done ?_
    refine AWp.condT rfl ?_
    refine AWp.seq ?_
    refine AWp.regionN (fun o => writes o) rfl ?_
    refine pT rfl rfl rfl ?_
    refine AOps.store tabOk (v := .dat (.st _ _)) rfl rfl rfl rfl rfl rfl rfl rfl rfl rfl rfl rfl rfl ?_
    refine pI rfl rfl rfl ?_
    refine AOps.done ?_
    refine AWp.ret ?_
    exact ⟨_, rfl, by rw [mulS, if_neg (by simp [hr])]; rfl⟩

theorem refadd_fn (a1 a2 b1 b2 : Int) (h1 : inI a1) (h2 : inI a2) (h3 : inI b1) (h4 : inI b2) : AFn prog 23 [.st [1, 1] [.v (.int .i64 a1), .v (.int .i64 a2)], .st [1, 1] [.v (.int .i64 b1), .v (.int .i64 b2)]] (ansD (addS (a1, a2) (b1, b2))) false := by
  have l1 := len64 (abs_lt h1)
  have l2 := len64 (abs_lt h2)
  have l3 := len64 (abs_lt h3)
  have l4 := len64 (abs_lt h4)
  refine AFn.intro' (L := [(0, .dat (.st [1, 1] [.v (.int .i64 a1), .v (.int .i64 a2)])), (1, .dat (.st [1, 1] [.v (.int .i64 b1), .v (.int .i64 b2)]))]) tabOk Try.func23 rfl rfl Try.ntmps23 rfl rfl rfl ?_
  refine AWp.seq ?_
  refine AWp.regionN (fun _ => false) rfl ?_
  refine AOps.box (v := .dat (.st _ _)) rfl rfl rfl rfl rfl rfl ?_
  refine AOps.box (v := .dat (.st _ _)) rfl rfl rfl rfl rfl rfl ?_
  refine AOps.alloc tabOk rfl rfl rfl rfl rfl ?_
  refine pI rfl rfl rfl ?_
  refine AOps.done ?_
  refine AWp.seq ?_
  refine AWp.seq ?_
  refine AWp.regionN (fun _ => false) rfl ?_
  refine pT rfl rfl rfl ?_
  refine AOps.call (refright_fn a1 a2 h1 h2) rfl rfl rfl ⟨.inl rfl, trivial⟩ ?_
  refine AOps.b tabOk rfl rfl rfl (fun c9 h9 => ?_)
  refine pB rfl rfl rfl ?_
  cases c9
  · -- c9 = false
    have hr1 : rightS a1 a2 = true := by simpa using h9
    refine pT rfl rfl rfl ?_
    refine AOps.call (refright_fn b1 b2 h3 h4) rfl rfl rfl ⟨.inl rfl, trivial⟩ ?_
    refine AOps.b tabOk rfl rfl rfl (fun c13 h13 => ?_)
    refine pB rfl rfl rfl ?_
    refine AOps.done ?_
    refine AWp.cond rfl (fun e => ?_) (fun e => ?_)
    · subst e
      have hr : rightS b1 b2 = false := by simpa using h13
      refine AWp.seq ?_
      refine AWp.regionN (fun o => writes o) rfl ?_
      refine pT rfl rfl rfl ?_
      refine AOps.store tabOk (v := .dat (.st _ _)) rfl rfl rfl rfl rfl rfl rfl rfl rfl rfl rfl rfl rfl ?_
      refine pI rfl rfl rfl ?_
      refine AOps.done ?_
      refine AWp.ret ?_
      exact ⟨_, rfl, by rw [addS, if_neg (by simp [hr])]; rfl⟩
    · subst e
      have hr2 : rightS b1 b2 = true := by simpa using h13
      obtain ⟨p1, p2, p3⟩ := rightS_spec.1 hr1
      obtain ⟨q1, q2, q3⟩ := rightS_spec.1 hr2
      refine AWp.skip ?_
      refine AWp.seq ?_
      refine AWp.regionD (fun o => writes o) mixed (by decide +kernel) rfl ?_
      refine pP rfl rfl rfl ?_
      refine pI rfl rfl rfl ?_
      refine AOps.call (num_fn a1 h1) rfl rfl rfl ⟨.inl rfl, trivial⟩ ?_
      refine pP rfl rfl rfl ?_
      refine pI rfl rfl rfl ?_
      refine AOps.call (num_fn b2 h4) rfl rfl rfl ⟨.inl rfl, trivial⟩ ?_
      refine AOps.call (product_fn _ _ a1.natAbs b2.natAbs l1 l4) rfl rfl rfl ⟨.inl rfl, .inl rfl, trivial⟩ ?_
      refine pP rfl rfl rfl ?_
      refine pI rfl rfl rfl ?_
      refine AOps.call (num_fn b1 h3) rfl rfl rfl ⟨.inl rfl, trivial⟩ ?_
      refine pP rfl rfl rfl ?_
      refine pI rfl rfl rfl ?_
      refine AOps.call (num_fn a2 h2) rfl rfl rfl ⟨.inl rfl, trivial⟩ ?_
      refine AOps.call (product_fn _ _ b1.natAbs a2.natAbs l3 l2) rfl rfl rfl ⟨.inl rfl, .inl rfl, trivial⟩ ?_
      refine AOps.call (sum_fn _ _ (a1.natAbs * b2.natAbs) (b1.natAbs * a2.natAbs) (mul_len l1 l4) (mul_len l3 l2) (fun h => by simp [h]) (fun h => by simp [h])) rfl rfl rfl ⟨.inl rfl, .inl rfl, trivial⟩ ?_
      refine AOps.alloc tabOk rfl rfl rfl rfl rfl ?_
      refine AOps.store tabOk (v := .dat (.st _ _)) rfl rfl rfl rfl rfl rfl rfl rfl rfl rfl rfl rfl rfl ?_
      refine AOps.done ?_
      refine AWp.seq ?_
      refine AWp.regionD (fun o => writes o) mixed (by decide +kernel) rfl ?_
      refine pP rfl rfl rfl ?_
      refine pB rfl rfl rfl ?_
      refine pP rfl rfl rfl ?_
      refine pS rfl rfl rfl ?_
      refine pP rfl rfl rfl ?_
      refine pI rfl rfl rfl ?_
      refine AOps.call (size_fn a2 h2) rfl rfl rfl ⟨.inl rfl, trivial⟩ ?_
      refine pP rfl rfl rfl ?_
      refine pI rfl rfl rfl ?_
      refine AOps.call (size_fn b2 h4) rfl rfl rfl ⟨.inl rfl, trivial⟩ ?_
      refine AOps.call (by_fn a2.natAbs b2.natAbs (by omega) (by omega)) rfl rfl rfl ⟨.inl rfl, .inl rfl, trivial⟩ ?_
      refine AOps.call (ratof_fn _ _ (a2.natAbs * b2.natAbs) (add_len (mul_lt4 l1 l4) (mul_lt4 l3 l2)) (mul_len4 l2 l4) (Nat.mul_ne_zero (by omega) (by omega))) rfl rfl rfl ⟨.inl rfl, .inl rfl, .inl rfl, trivial⟩ ?_
      refine pT rfl rfl rfl ?_
      refine pI rfl rfl rfl ?_
      refine AOps.store tabOk (v := .dat (.st _ _)) rfl rfl rfl rfl rfl rfl rfl rfl rfl rfl rfl rfl rfl ?_
      refine pI rfl rfl rfl ?_
      refine AOps.done ?_
      refine AWp.ret ?_
      exact ⟨_, rfl, by rw [addS, if_pos (by simp [hr1, hr2]), ← prod_val q1, ← prod_val p1]; rfl⟩
  · -- c9 = true
    have hr : rightS a1 a2 = false := by simpa using h9
    refine AOps.off rfl rfl ?_
    refine AOps.off rfl rfl ?_
    refine AOps.off rfl rfl ?_
    refine pB rfl rfl rfl ?_
    refine AOps.done ?_
    refine AWp.condT rfl ?_
    refine AWp.seq ?_
    refine AWp.regionN (fun o => writes o) rfl ?_
    refine pT rfl rfl rfl ?_
    refine AOps.store tabOk (v := .dat (.st _ _)) rfl rfl rfl rfl rfl rfl rfl rfl rfl rfl rfl rfl rfl ?_
    refine pI rfl rfl rfl ?_
    refine AOps.done ?_
    refine AWp.ret ?_
    exact ⟨_, rfl, by rw [addS, if_neg (by simp [hr])]; rfl⟩

theorem refsub_fn (a1 a2 b1 b2 : Int) (h1 : inI a1) (h2 : inI a2) (h3 : inI b1) (h4 : inI b2) : AFn prog 25 [.st [1, 1] [.v (.int .i64 a1), .v (.int .i64 a2)], .st [1, 1] [.v (.int .i64 b1), .v (.int .i64 b2)]] (ansD (subS (a1, a2) (b1, b2))) false := by
  refine AFn.intro' (L := [(0, .dat (.st [1, 1] [.v (.int .i64 a1), .v (.int .i64 a2)])), (1, .dat (.st [1, 1] [.v (.int .i64 b1), .v (.int .i64 b2)]))]) tabOk Try.func25 rfl rfl Try.ntmps25 rfl rfl rfl ?_
  refine AWp.seq ?_
  refine AWp.regionN (fun _ => false) rfl ?_
  refine AOps.box (v := .dat (.st _ _)) rfl rfl rfl rfl rfl rfl ?_
  refine AOps.box (v := .dat (.st _ _)) rfl rfl rfl rfl rfl rfl ?_
  refine AOps.alloc tabOk rfl rfl rfl rfl rfl ?_
  refine pI rfl rfl rfl ?_
  refine AOps.done ?_
  refine AWp.seq ?_
  refine AWp.seq ?_
  refine AWp.regionN (fun _ => false) rfl ?_
  refine pT rfl rfl rfl ?_
  refine AOps.call (refright_fn b1 b2 h3 h4) rfl rfl rfl ⟨.inl rfl, trivial⟩ ?_
  refine AOps.b tabOk rfl rfl rfl (fun c8 h8 => ?_)
  refine AOps.done ?_
  refine AWp.cond rfl (fun e => ?_) (fun e => ?_)
  · subst e
    have hr : rightS b1 b2 = false := by simpa using h8
    refine AWp.seq ?_
    refine AWp.regionN (fun o => writes o) rfl ?_
    refine pT rfl rfl rfl ?_
    refine AOps.store tabOk (v := .dat (.st _ _)) rfl rfl rfl rfl rfl rfl rfl rfl rfl rfl rfl rfl rfl ?_
    refine pI rfl rfl rfl ?_
    refine AOps.done ?_
    refine AWp.ret ?_
    exact ⟨_, rfl, by rw [subS, if_neg (by simp [hr])]; rfl⟩
  · subst e
    have hr2 : rightS b1 b2 = true := by simpa using h8
    obtain ⟨q1, q2, q3⟩ := rightS_spec.1 hr2
    refine AWp.skip ?_
    refine AWp.seq ?_
    refine AWp.regionN (fun o => writes o) rfl ?_
    refine pT rfl rfl rfl ?_
    refine pP rfl rfl rfl ?_
    refine pI rfl rfl rfl ?_
    refine AOps.i tabOk rfl rfl rfl (j := -b1) (by unfold inI at h3; rw [wi (by omega) (by omega)]; omega) ?_
    refine pP rfl rfl rfl ?_
    refine pI rfl rfl rfl ?_
    refine pT rfl rfl rfl ?_
    refine AOps.call (refadd_fn a1 a2 (-b1) b2 h1 h2 (by unfold inI at h3 ⊢; omega) h4) rfl rfl rfl ⟨.inl rfl, .inl rfl, trivial⟩ ?_
    refine pT rfl rfl rfl ?_
    refine pI rfl rfl rfl ?_
    refine AOps.store tabOk (v := .dat (.st _ _)) rfl rfl rfl rfl rfl rfl rfl rfl rfl rfl rfl rfl rfl ?_
    refine pI rfl rfl rfl ?_
    refine AOps.done ?_
    refine AWp.ret ?_
    exact ⟨_, rfl, by rw [subS, if_pos hr2]; rfl⟩

theorem refdiv_fn (a1 a2 b1 b2 : Int) (h1 : inI a1) (h2 : inI a2) (h3 : inI b1) (h4 : inI b2) : AFn prog 29 [.st [1, 1] [.v (.int .i64 a1), .v (.int .i64 a2)], .st [1, 1] [.v (.int .i64 b1), .v (.int .i64 b2)]] (ansD (divS (a1, a2) (b1, b2))) false := by
  have l1 := len64 (abs_lt h1)
  have l2 := len64 (abs_lt h2)
  have l3 := len64 (abs_lt h3)
  have l4 := len64 (abs_lt h4)
  refine AFn.intro' (L := [(0, .dat (.st [1, 1] [.v (.int .i64 a1), .v (.int .i64 a2)])), (1, .dat (.st [1, 1] [.v (.int .i64 b1), .v (.int .i64 b2)]))]) tabOk Try.func29 rfl rfl Try.ntmps29 rfl rfl rfl ?_
  refine AWp.seq ?_
  refine AWp.regionN (fun _ => false) rfl ?_
  refine AOps.box (v := .dat (.st _ _)) rfl rfl rfl rfl rfl rfl ?_
  refine AOps.box (v := .dat (.st _ _)) rfl rfl rfl rfl rfl rfl ?_
  refine AOps.alloc tabOk rfl rfl rfl rfl rfl ?_
  refine pI rfl rfl rfl ?_
  refine AOps.done ?_
  refine AWp.seq ?_
  refine AWp.seq ?_
  refine AWp.regionN (fun _ => false) rfl ?_
  refine pT rfl rfl rfl ?_
  refine AOps.call (refright_fn a1 a2 h1 h2) rfl rfl rfl ⟨.inl rfl, trivial⟩ ?_
  refine AOps.b tabOk rfl rfl rfl (fun c8 h8 => ?_)
  refine pB rfl rfl rfl ?_
  cases c8
  · -- c8 = false
    have hr1 : rightS a1 a2 = true := by simpa using h8
    refine pT rfl rfl rfl ?_
    refine AOps.call (refright_fn b1 b2 h3 h4) rfl rfl rfl ⟨.inl rfl, trivial⟩ ?_
    refine AOps.b tabOk rfl rfl rfl (fun c12 h12 => ?_)
    refine pB rfl rfl rfl ?_
    refine AOps.done ?_
    refine AWp.cond rfl (fun e => ?_) (fun e => ?_)
    · subst e
      have hr : rightS b1 b2 = false := by simpa using h12
      refine AWp.seq ?_
      refine AWp.regionN (fun o => writes o) rfl ?_
      refine pT rfl rfl rfl ?_
      refine AOps.store tabOk (v := .dat (.st _ _)) rfl rfl rfl rfl rfl rfl rfl rfl rfl rfl rfl rfl rfl ?_
      refine pI rfl rfl rfl ?_
      refine AOps.done ?_
      refine AWp.ret ?_
      exact ⟨_, rfl, by rw [divS, if_neg (by simp [hr])]; rfl⟩
    · subst e
      have hr2 : rightS b1 b2 = true := by simpa using h12
      obtain ⟨p1, p2, p3⟩ := rightS_spec.1 hr1
      obtain ⟨q1, q2, q3⟩ := rightS_spec.1 hr2
      refine AWp.skip ?_
      refine AWp.seq ?_
      refine AWp.seq ?_
      refine AWp.regionN (fun _ => false) rfl ?_
      refine pP rfl rfl rfl ?_
      refine pI rfl rfl rfl ?_
      refine AOps.b tabOk rfl rfl rfl (fun c17 h17 => ?_)
      refine AOps.done ?_
      refine AWp.cond rfl (fun e => ?_) (fun e => ?_)
      · subst e
        have h0 : b1 = 0 := by simpa using h17
        refine AWp.seq ?_
        refine AWp.regionN (fun o => writes o) rfl ?_
        refine pT rfl rfl rfl ?_
        refine AOps.store tabOk (v := .dat (.st _ _)) rfl rfl rfl rfl rfl rfl rfl rfl rfl rfl rfl rfl rfl ?_
        refine pI rfl rfl rfl ?_
        refine AOps.done ?_
        refine AWp.ret ?_
        exact ⟨_, rfl, by rw [divS, if_pos (by simp [hr1, hr2]), if_pos h0]; rfl⟩
      · subst e
        have h0 : b1 ≠ 0 := by simpa using h17
        refine AWp.skip ?_
        refine AWp.seq ?_
        refine AWp.regionD (fun o => writes o) mixed (by decide +kernel) rfl ?_
        refine pP rfl rfl rfl ?_
        refine pI rfl rfl rfl ?_
        refine AOps.b tabOk rfl rfl rfl (fun c21 h21 => ?_)
        refine pP rfl rfl rfl ?_
        refine pI rfl rfl rfl ?_
        refine AOps.b tabOk rfl rfl rfl (fun c24 h24 => ?_)
        refine AOps.b tabOk rfl rfl rfl (fun c25 h25 => ?_)
        refine pP rfl rfl rfl ?_
        refine pI rfl rfl rfl ?_
        refine AOps.call (size_fn a1 h1) rfl rfl rfl ⟨.inl rfl, trivial⟩ ?_
        refine pP rfl rfl rfl ?_
        refine pI rfl rfl rfl ?_
        refine AOps.call (size_fn b2 h4) rfl rfl rfl ⟨.inl rfl, trivial⟩ ?_
        refine AOps.call (by_fn a1.natAbs b2.natAbs (by omega) (by omega)) rfl rfl rfl ⟨.inl rfl, .inl rfl, trivial⟩ ?_
        refine pP rfl rfl rfl ?_
        refine pI rfl rfl rfl ?_
        refine AOps.call (size_fn a2 h2) rfl rfl rfl ⟨.inl rfl, trivial⟩ ?_
        refine pP rfl rfl rfl ?_
        refine pI rfl rfl rfl ?_
        refine AOps.call (size_fn b1 h3) rfl rfl rfl ⟨.inl rfl, trivial⟩ ?_
        refine AOps.call (by_fn a2.natAbs b1.natAbs (by omega) (by omega)) rfl rfl rfl ⟨.inl rfl, .inl rfl, trivial⟩ ?_
        refine AOps.call (ratof_fn _ (a1.natAbs * b2.natAbs) (a2.natAbs * b1.natAbs) (mul_len4 l1 l4) (mul_len4 l2 l3) (Nat.mul_ne_zero (by omega) (by omega))) rfl rfl rfl ⟨.inl rfl, .inl rfl, .inl rfl, trivial⟩ ?_
        refine pT rfl rfl rfl ?_
        refine pI rfl rfl rfl ?_
        refine AOps.store tabOk (v := .dat (.st _ _)) rfl rfl rfl rfl rfl rfl rfl rfl rfl rfl rfl rfl rfl ?_
        refine pI rfl rfl rfl ?_
        refine AOps.done ?_
        refine AWp.ret ?_
        exact ⟨_, rfl, by rw [divS, if_pos (by simp [hr1, hr2]), if_neg h0, ← h25, ← h21, ← h24]; rfl⟩
  · -- c8 = true
    have hr : rightS a1 a2 = false := by simpa using h8
    refine AOps.off rfl rfl ?_
    refine AOps.off rfl rfl ?_
    refine AOps.off rfl rfl ?_
    refine pB rfl rfl rfl ?_
    refine AOps.done ?_
    refine AWp.condT rfl ?_
    refine AWp.seq ?_
    refine AWp.regionN (fun o => writes o) rfl ?_
    refine pT rfl rfl rfl ?_
    refine AOps.store tabOk (v := .dat (.st _ _)) rfl rfl rfl rfl rfl rfl rfl rfl rfl rfl rfl rfl rfl ?_
    refine pI rfl rfl rfl ?_
    refine AOps.done ?_
    refine AWp.ret ?_
    exact ⟨_, rfl, by rw [divS, if_neg (by simp [hr])]; rfl⟩

end Go.Sim.Ytnhflokfcnfegaa
