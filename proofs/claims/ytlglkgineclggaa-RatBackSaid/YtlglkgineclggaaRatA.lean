/- What is proved: sums and differences of numbers are the exact ones. -/
import Derived.Test.YtlglkgineclggaaRatY
namespace Go.Sim.Ytlglkgineclggaa
open Go.RowKit Go.Proofs Go.Proofs.Try

theorem sgn_mul {n : Int} (q : Nat) : (n < 0 ∧ n * (q : Int) = -((n.natAbs * q : Nat) : Int)) ∨ (0 ≤ n ∧ n * (q : Int) = ((n.natAbs * q : Nat) : Int)) := by
  by_cases h : n < 0
  · refine .inl ⟨h, ?_⟩
    rw [Int.natCast_mul, ← Int.neg_mul]; congr 1; omega
  · refine .inr ⟨by omega, ?_⟩
    rw [Int.natCast_mul]; congr 1; omega

theorem radd_ev {a b : GRat} (ha : a.inI) (hb : b.inI) : Ev_rat_Add a b (toR (addS a.p b.p)) := by
  refine walk_rat_Add ?_
  unfold W_rat_Add
  refine Call.mk (right_ev ha) ⟨fun h => ?_, fun h => ?_⟩
  · have h : rightS a.N a.D = false := by simpa [GRat.right] using h
    simp [addS, h]
  refine Call.mk (right_ev hb) ⟨fun h' => ?_, fun h' => ?_⟩
  · have h' : rightS b.N b.D = false := by simpa [GRat.right] using h'
    simp [addS, h']
  have ra : a.right = true := by simpa using h
  have rb : b.right = true := by simpa using h'
  clear h h'
  obtain ⟨a1, a2, a3⟩ := GRat.right_spec.1 ra
  obtain ⟨b1, b2, b3⟩ := GRat.right_spec.1 rb
  obtain ⟨iaN, iaD⟩ := ha
  obtain ⟨ibN, ibD⟩ := hb
  have iaN' := iaN
  have ibN' := ibN
  unfold Sim.inI at iaN' iaD ibN' ibD
  obtain ⟨d1, hd1⟩ : ∃ d : Nat, a.D = (d : Int) := ⟨a.D.natAbs, by omega⟩
  obtain ⟨d2, hd2⟩ : ∃ d : Nat, b.D = (d : Int) := ⟨b.D.natAbs, by omega⟩
  have hS0 : addS a.p b.p = madeS (decide (a.N * b.D + b.N * a.D < 0)) (a.N * b.D + b.N * a.D).natAbs (a.D.natAbs * b.D.natAbs) := by
    have e1 : rightS a.N a.D = true := ra
    have e2 : rightS b.N b.D = true := rb
    simp only [addS, e1, e2, Bool.and_self, if_true]
  simp only [hd1, hd2] at *
  simp only [Int.natAbs_natCast] at a3 b3 hS0
  refine Let.as (d1 : Int) (wu (by omega) (by omega)) (Let.as (d2 : Int) (wu (by omega) (by omega)) (Call.mk (gcd_ev d1 d2) ?_))
  obtain ⟨g, hg⟩ : ∃ g, g = Nat.gcd d1 d2 := ⟨_, rfl⟩
  obtain ⟨p, hp⟩ : ∃ p, p = d1 / g := ⟨_, rfl⟩
  obtain ⟨q, hq⟩ : ∃ q, q = d2 / g := ⟨_, rfl⟩
  obtain ⟨S, hS⟩ : ∃ S, S = a.N * q + b.N * p := ⟨_, rfl⟩
  obtain ⟨k, hk⟩ : ∃ k, k = Nat.gcd S.natAbs g := ⟨_, rfl⟩
  rw [← hg]
  obtain ⟨g0, k0, kS, kg, e1, e2, cop, hsum, hmade⟩ := add_red a3 b3 (by omega) hg hp hq hS hk
  have hpb : p ≤ d1 := by rw [hp]; exact Nat.div_le_self _ _
  have hqb : q ≤ d2 := by rw [hq]; exact Nat.div_le_self _ _
  have hgb : g ≤ d1 := by rw [hg]; exact Nat.gcd_le_left _ (by omega)
  have hp0 : p ≠ 0 := fun h => by rw [h] at e1; omega
  have hq0 : q ≠ 0 := fun h => by rw [h] at e2; omega
  refine Let.as (d1 : Int) (wu (by omega) (by omega)) ⟨by omega, Let.as (p : Int) (by rw [← Int.ofNat_tdiv, ← hp, wu (by omega) (by omega)]) ?_⟩
  refine Let.as (d2 : Int) (wu (by omega) (by omega)) ⟨by omega, Let.as (q : Int) (by rw [← Int.ofNat_tdiv, ← hq, wu (by omega) (by omega)]) ?_⟩
  refine Call.mk (rsize_ev iaN) (Call.mk (mul64_ev _ _ (by omega) (by omega)) (Call.mk (rsize_ev ibN) (Call.mk (mul64_ev _ _ (by omega) (by omega)) ?_)))
  have sx := @sgn_mul a.N q
  have sy := @sgn_mul b.N p
  have bx := bd126 (a := a.N.natAbs) (b := q) (by omega) (by omega)
  have bY := bd126 (a := b.N.natAbs) (b := p) (by omega) (by omega)
  obtain ⟨X, hX⟩ : ∃ X, X = a.N.natAbs * q := ⟨_, rfl⟩
  obtain ⟨Y, hY⟩ : ∃ Y, Y = b.N.natAbs * p := ⟨_, rfl⟩
  rw [← hX] at sx bx ⊢
  rw [← hY] at sy bY ⊢
  obtain ⟨A, hA⟩ : ∃ A, A = a.N * (q : Int) := ⟨_, rfl⟩
  obtain ⟨B, hB⟩ : ∃ B, B = b.N * (p : Int) := ⟨_, rfl⟩
  rw [← hA] at sx hS
  rw [← hB] at sy hS
  refine ⟨fun h l s => ∃ H L : Nat, h = (H : Int) ∧ l = (L : Int) ∧ L < 18446744073709551616 ∧ H < 18446744073709551616 ∧ H * 18446744073709551616 + L = S.natAbs ∧ (S ≠ 0 → s = decide (S < 0)), ?_, ?_⟩
  · refine ⟨fun hs => ?_, fun hs => ?_⟩
    · have hs : (a.N < 0 ↔ b.N < 0) := by simpa using hs
      refine Call.mk (add64_ev (X % 18446744073709551616) (Y % 18446744073709551616) 0 (by omega)) ?_
      refine Let.as ((Y / 18446744073709551616 + (X % 18446744073709551616 + Y % 18446744073709551616 + 0) / 18446744073709551616 : Nat) : Int) (by rw [← Int.natCast_add, wu (by omega) (by omega)]) ?_
      refine Let.as ((X / 18446744073709551616 + (Y / 18446744073709551616 + (X % 18446744073709551616 + Y % 18446744073709551616 + 0) / 18446744073709551616) : Nat) : Int) (by rw [← Int.natCast_add, wu (by omega) (by omega)]) ?_
      refine ⟨_, _, rfl, rfl, by omega, by omega, by omega, fun h0 => ?_⟩
      by_cases hn : a.N < 0
      · rw [decide_eq_true hn, decide_eq_true (by omega)]
      · rw [decide_eq_false hn, decide_eq_false (by omega)]
    · have hs : ¬ (a.N < 0 ↔ b.N < 0) := by simpa using hs
      refine ⟨fun c => c = decide (Y ≤ X), Br.d (fun h => ?_) (fun h => Br.e (fun h2 => ?_) (fun h2 => ?_)), ?_⟩
      · exact (decide_eq_true (by omega)).symm
      · show decide _ = decide _
        by_cases h3 : Y ≤ X
        · rw [decide_eq_true h3, decide_eq_true (by omega)]
        · rw [decide_eq_false h3, decide_eq_false (by omega)]
      · exact (decide_eq_false (by omega)).symm
      · rintro _ rfl
        refine Br.d (fun h => ?_) (fun h => ?_)
        · refine Call.mk (sub64_ev (X % 18446744073709551616) (Y % 18446744073709551616) 0 (by omega)) ?_
          obtain ⟨c, hc⟩ : ∃ c : Nat, c = if X % 18446744073709551616 < Y % 18446744073709551616 + 0 then 1 else 0 := ⟨_, rfl⟩
          rw [← hc]
          have hc' : (X % 18446744073709551616 < Y % 18446744073709551616 ∧ c = 1) ∨ (Y % 18446744073709551616 ≤ X % 18446744073709551616 ∧ c = 0) := by split at hc <;> omega
          clear hc
          refine Let.as ((Y / 18446744073709551616 + c : Nat) : Int) (by rw [← Int.natCast_add, wu (by omega) (by omega)]) ?_
          refine Let.as ((X / 18446744073709551616 - (Y / 18446744073709551616 + c) : Nat) : Int) (by rw [wu (by omega) (by omega)]; omega) ?_
          refine ⟨_, _, rfl, rfl, by omega, by omega, by omega, fun h0 => ?_⟩
          by_cases hn : a.N < 0
          · rw [decide_eq_true hn, decide_eq_true (by omega)]
          · rw [decide_eq_false hn, decide_eq_false (by omega)]
        · refine Call.mk (sub64_ev (Y % 18446744073709551616) (X % 18446744073709551616) 0 (by omega)) ?_
          obtain ⟨c, hc⟩ : ∃ c : Nat, c = if Y % 18446744073709551616 < X % 18446744073709551616 + 0 then 1 else 0 := ⟨_, rfl⟩
          rw [← hc]
          have hc' : (Y % 18446744073709551616 < X % 18446744073709551616 ∧ c = 1) ∨ (X % 18446744073709551616 ≤ Y % 18446744073709551616 ∧ c = 0) := by split at hc <;> omega
          clear hc
          refine Let.as ((Y / 18446744073709551616 - X / 18446744073709551616 : Nat) : Int) (by rw [wu (by omega) (by omega)]; omega) ?_
          refine Let.as ((Y / 18446744073709551616 - X / 18446744073709551616 - c : Nat) : Int) (by rw [wu (by omega) (by omega)]; omega) ?_
          refine ⟨_, _, rfl, rfl, by omega, by omega, by omega, fun h0 => ?_⟩
          by_cases hn : b.N < 0
          · rw [decide_eq_true hn, decide_eq_true (by omega)]
          · rw [decide_eq_false hn, decide_eq_false (by omega)]
  · rintro _ _ s ⟨H, L, rfl, rfl, hL, hH, hHL, hs⟩
    have hM : addS a.p b.p = madeS s (S.natAbs / k) (p * (g / k) * q) := by
      rw [hS0, hsum, Int.natAbs_mul, Int.natAbs_natCast, hmade]
      by_cases h0 : S = 0
      · have : p * (g / k) * q ≠ 0 := Nat.mul_ne_zero (Nat.mul_ne_zero hp0 (Nat.ne_of_gt (Nat.div_pos (Nat.le_of_dvd g0 kg) k0))) hq0
        rw [h0, Int.natAbs_zero, Nat.zero_div, madeS_zero this, madeS_zero this]
      · rw [hs h0]
        congr 1
        have : S * g < 0 ↔ S < 0 := by
          constructor
          · intro h; exact Int.not_le.1 fun h2 => absurd (Int.mul_nonneg h2 (show (0 : Int) ≤ g by omega)) (by omega)
          · intro h; exact Int.mul_neg_of_neg_of_pos h (by omega)
        simp [this]
    rw [hM]
    have hSk : S.natAbs / k * k = S.natAbs := Nat.div_mul_cancel kS
    have hkg : k ≤ g := Nat.le_of_dvd g0 kg
    refine Call.mk (rem64_ev H L g hL (by omega) (by omega)) (Call.mk (gcd_ev _ _) ?_)
    rw [hHL, ← Nat.gcd_rec, Nat.gcd_comm, ← hk]
    refine Br.eF (by omega) (Br.d (fun h => ?_) (fun h => ?_))
    · have : 18446744073709551616 ≤ S.natAbs / k := by
        refine (Nat.le_div_iff_mul_le k0).2 ?_
        have := Nat.mul_le_mul_right 18446744073709551616 (show k ≤ H by omega)
        rw [Nat.mul_comm]
        omega
      rw [madeS_cop cop, if_neg (by omega)]
    · have hn : S.natAbs / k < 18446744073709551616 := Nat.div_lt_of_lt_mul (by have := Nat.mul_le_mul_right 18446744073709551616 (show H + 1 ≤ k by omega); omega)
      refine Call.mk (div64_ev H L k hL (by omega) (by omega)) ?_
      rw [hHL]
      have hgk : p * (g / k) ≤ d1 := by rw [e1]; exact Nat.mul_le_mul_left _ (Nat.div_le_self _ _)
      have hd0 : p * (g / k) * q ≠ 0 := Nat.mul_ne_zero (Nat.mul_ne_zero hp0 (Nat.ne_of_gt (Nat.div_pos hkg k0))) hq0
      refine Br.e (fun h0 => ?_) (fun h0 => ⟨by omega, ?_⟩)
      · have : S.natAbs / k = 0 := Int.natCast_eq_zero.1 h0
        rw [this, madeS_zero hd0]
      · refine Let.as ((g / k : Nat) : Int) (by rw [← Int.ofNat_tdiv, wu (Int.natCast_nonneg _) (by have := Nat.div_le_self g k; omega)]) ?_
        refine Let.as ((p * (g / k) : Nat) : Int) (by rw [← Int.natCast_mul, wu (by omega) (by omega)]) ?_
        refine Call.mk (mul64_ev _ _ (by omega) (by omega)) (Br.d (fun h1 => ?_) (fun h1 => ?_))
        · rw [madeS_cop cop, if_neg (by simp only at h1; omega)]
        · have e : p * (g / k) * q % 18446744073709551616 = p * (g / k) * q := Nat.mod_eq_of_lt (by simp only at h1; omega)
          simp only [e]
          exact Call.mk (made_ev s _ _ hn (by simp only at h1; omega) hd0) rfl

theorem rsub_ev {a b : GRat} (ha : a.inI) (hb : b.inI) : Ev_rat_Sub a b (toR (subS a.p b.p)) := by
  refine walk_rat_Sub ?_
  unfold W_rat_Sub
  refine Call.mk (right_ev hb) ⟨fun h => ?_, fun h => ?_⟩
  · have h : rightS b.N b.D = false := by simpa [GRat.right] using h
    simp [subS, h]
  have rb : b.right = true := by simpa using h
  obtain ⟨b1, b2, b3⟩ := GRat.right_spec.1 rb
  have hb' := hb.1
  unfold Sim.inI at hb'
  refine Let.as (-b.N) (by rw [wi (by omega) (by omega)]; omega) (Call.mk (radd_ev ha (b := ⟨-b.N, b.D⟩) ⟨by simp only [Sim.inI]; omega, hb.2⟩) ?_)
  have : rightS b.N b.D = true := rb
  simp [subS, this]

end Go.Sim.Ytlglkgineclggaa
