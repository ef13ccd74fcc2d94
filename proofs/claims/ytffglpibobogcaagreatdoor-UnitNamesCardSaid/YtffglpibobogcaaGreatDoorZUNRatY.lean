/- What is proved: what the functions of numbers compute (the program's: right, size, gcd, made, products, quotients), in words of the printed statements. -/
import Derived.Test.YtffglpibobogcaaGreatDoorZUNWF3
import Derived.Test.YtffglpibobogcaaGreatDoorZUNExtB
import Derived.Test.YtffglpibobogcaaGreatDoorZUNDivX
import Derived.Test.YtffglpibobogcaaGreatDoorZUNBig
import Derived.Test.YtffglpibobogcaaGreatDoorZUNPureK

namespace Go.Sim.YtffglpibobogcaaGreatDoor
open Go.RowKit Go.Proofs Go.Proofs.Tryz
/-- An answer. -/
abbrev toR (r : (Int × Int) × Int) : GRat × Int := (⟨r.1.1, r.1.2⟩, r.2)
def GRat.inI (a : GRat) : Prop := Sim.inI a.N ∧ Sim.inI a.D
def GRat.right (a : GRat) : Bool := rightS a.N a.D
abbrev GRat.p (a : GRat) : Int × Int := (a.N, a.D)
theorem GRat.right_spec {a : GRat} : a.right = true ↔ 1 ≤ a.D ∧ a.N ≠ -9223372036854775808 ∧ Nat.gcd a.N.natAbs a.D.natAbs = 1 := rightS_spec
theorem shr32' (a : Nat) : Int.fdiv (a : Int) (2 ^ 32) = ((a / 4294967296 : Nat) : Int) := by rw [shrC]
theorem mul64_ev (a b : Nat) (ha : a < 18446744073709551616) (hb : b < 18446744073709551616) : Ev_math_bits_Mul64 (a : Int) (b : Int) (((a * b / 18446744073709551616 : Nat) : Int), ((a * b % 18446744073709551616 : Nat) : Int)) := by
  obtain ⟨x0, hx0⟩ : ∃ x0, x0 = a % 4294967296 := ⟨_, rfl⟩
  obtain ⟨x1, hx1⟩ : ∃ x1, x1 = a / 4294967296 := ⟨_, rfl⟩
  obtain ⟨y0, hy0⟩ : ∃ y0, y0 = b % 4294967296 := ⟨_, rfl⟩
  obtain ⟨y1, hy1⟩ : ∃ y1, y1 = b / 4294967296 := ⟨_, rfl⟩
  have b00 : x0 * y0 ≤ 4294967295 * 4294967295 := Nat.mul_le_mul (by omega) (by omega)
  have b10 : x1 * y0 ≤ 4294967295 * 4294967295 := Nat.mul_le_mul (by omega) (by omega)
  have b01 : x0 * y1 ≤ 4294967295 * 4294967295 := Nat.mul_le_mul (by omega) (by omega)
  have b11 : x1 * y1 ≤ 4294967295 * 4294967295 := Nat.mul_le_mul (by omega) (by omega)
  obtain ⟨w0, hw0⟩ : ∃ w0, w0 = x0 * y0 := ⟨_, rfl⟩
  obtain ⟨t, ht⟩ : ∃ t, t = x1 * y0 + w0 / 4294967296 := ⟨_, rfl⟩
  obtain ⟨w1, hw1⟩ : ∃ w1, w1 = t % 4294967296 + x0 * y1 := ⟨_, rfl⟩
  have hres := mul64_ok (a := a) (b := b) (x0 := x0) (x1 := x1) (y0 := y0) (y1 := y1) (by omega) (by omega) hw0 ht hw1
  refine walk_math_bits_Mul64 ?_
  unfold W_math_bits_Mul64
  refine Let.as (x0 : Int) (by rw [and32 ha, hx0]) (Let.as (x1 : Int) (by rw [shr32', hx1]) (Let.as (y0 : Int) (by rw [and32 hb, hy0]) (Let.as (y1 : Int) (by rw [shr32', hy1]) ?_)))
  refine Let.as (w0 : Int) (by rw [← Int.natCast_mul, wu (by omega) (by omega), hw0]) (Let.as ((x1 * y0 : Nat) : Int) (by rw [← Int.natCast_mul, wu (by omega) (by omega)]) (Let.as _ (shr32' w0) (Let.as (t : Int) (by rw [wu (by omega) (by omega)]; omega) ?_)))
  refine Let.as ((t % 4294967296 : Nat) : Int) (and32 (by omega)) (Let.as _ (shr32' t) (Let.as ((x0 * y1 : Nat) : Int) (by rw [← Int.natCast_mul, wu (by omega) (by omega)]) (Let.as (w1 : Int) (by rw [wu (by omega) (by omega)]; omega) ?_)))
  refine Let.as ((x1 * y1 : Nat) : Int) (by rw [← Int.natCast_mul, wu (by omega) (by omega)]) (Let.as ((x1 * y1 + t / 4294967296 : Nat) : Int) (by rw [wu (by omega) (by omega)]; omega) (Let.as _ (shr32' w1) (Let.as ((a * b / 18446744073709551616 : Nat) : Int) (by rw [← hres, wu (by omega) (by omega)]; omega) ?_)))
  exact Let.as _ (by rw [← Int.natCast_mul, wuN]) rfl
theorem wuM (n : Int) : IntKind.u64.wrap n = n % 18446744073709551616 := by simp only [IntKind.wrap, IntKind.bits, IntKind.signed, Bool.false_and, Bool.false_eq_true, if_false]; omega
theorem rsize_ev {n : Int} (h : Sim.inI n) : Ev_rat_size n ((n.natAbs : Nat) : Int) := by
  unfold Sim.inI at h
  refine walk_rat_size ?_
  unfold W_rat_size
  refine Br.d (fun a => Let.as (n + 18446744073709551616) (by rw [wuM]; omega) (Let.as ((n.natAbs : Nat) : Int) (by rw [wuM]; omega) rfl)) (fun a => Let.as ((n.natAbs : Nat) : Int) (by rw [wuM]; omega) rfl)
theorem gcd_ev (a b : Nat) : Ev_rat_gcd (a : Int) (b : Int) ((Nat.gcd a b : Nat) : Int) := by
  refine walk_rat_gcd ?_
  unfold W_rat_gcd
  refine ⟨fun x y => ∃ m n : Nat, x = (m : Int) ∧ y = (n : Int) ∧ Nat.gcd m n = Nat.gcd a b, fun _ y => y.toNat, ⟨a, b, rfl, rfl, rfl⟩, ?_⟩
  rintro _ _ ⟨m, n, rfl, rfl, hg⟩
  refine Br.d (fun h => ⟨by omega, Let.as ((m % n : Nat) : Int) rfl ⟨⟨n, m % n, rfl, rfl, by rw [← hg, Nat.gcd_comm n, ← Nat.gcd_rec, Nat.gcd_comm]⟩, ?_⟩⟩) (fun h => ?_)
  · have := Nat.mod_lt m (show n > 0 by omega)
    simp only [Int.toNat_natCast]; exact this
  · have : n = 0 := by omega
    subst this
    rw [Nat.gcd_zero_right] at hg
    rw [← hg]
theorem tdivN (a b : Nat) : Int.tdiv (a : Int) (b : Int) = ((a / b : Nat) : Int) := rfl
theorem right_ev {a : GRat} (h : a.inI) : Ev_rat_Right a a.right := by
  have hN := h.1
  have hD := h.2
  refine walk_rat_Right ?_
  unfold W_rat_Right
  unfold GRat.right rightS
  refine Br.d (fun c => Br.d (fun d => Call.mk (rsize_ev hN) (Call.mk (rsize_ev hD) (Call.mk (gcd_ev _ _) ?_))) (fun d => ?_)) (fun c => ?_)
  · show _ = _
    rw [decide_eq_true (show 1 ≤ a.D from c), decide_eq_true (show a.N ≠ -9223372036854775808 by omega)]
    simp only [Bool.true_and]
    by_cases e : Nat.gcd a.N.natAbs a.D.natAbs = 1
    · rw [e]; rfl
    · rw [beq_eq_false_iff_ne.2 e, beq_eq_false_iff_ne]; omega
  · unfold Sim.inI at hN
    rw [decide_eq_false (show ¬ a.N ≠ -9223372036854775808 by omega)]; simp
  · rw [decide_eq_false (show ¬ 1 ≤ a.D from c)]; simp
theorem made_ev (s : Bool) (n d : Nat) (hn : n < 18446744073709551616) (hd : d < 18446744073709551616) (hd0 : d ≠ 0) : Ev_rat_made s (n : Int) (d : Int) (toR (madeS s n d)) := by
  have hg : 0 < Nat.gcd n d := Nat.gcd_pos_of_pos_right _ (by omega)
  have h1 : n / Nat.gcd n d ≤ n := Nat.div_le_self _ _
  have h2 : d / Nat.gcd n d ≤ d := Nat.div_le_self _ _
  refine walk_rat_made ?_
  unfold W_rat_made
  refine Call.mk (gcd_ev n d) ⟨by omega, Let.as _ (by rw [tdivN, wu (Int.natCast_nonneg _) (by omega)]) ⟨by omega, Let.as _ (by rw [tdivN, wu (Int.natCast_nonneg _) (by omega)]) ?_⟩⟩
  unfold madeS
  generalize n / Nat.gcd n d = x at h1 ⊢
  generalize d / Nat.gcd n d = y at h2 ⊢
  refine Br.d (fun c => ?_) (fun c => Br.d (fun e => ?_) (fun e => ?_))
  · rw [if_neg (by omega)]
  · rw [if_neg (by omega)]
  · rw [if_pos (by omega)]
    cases s with
    | true => exact Br.t rfl (Let.as (x : Int) (wi (by omega) (by omega)) (Let.as (-(x : Int)) (by rw [wi (by omega) (by omega)]; omega) (Let.as (y : Int) (wi (by omega) (by omega)) rfl)))
    | false => exact Br.f rfl (Let.as (x : Int) (wi (by omega) (by omega)) (Let.as (y : Int) (wi (by omega) (by omega)) rfl))
theorem rmul_ev {a b : GRat} (ha : a.inI) (hb : b.inI) : Ev_rat_Mul a b (toR (mulS a.p b.p)) := by
  refine walk_rat_Mul ?_
  unfold W_rat_Mul
  unfold mulS
  have e1 : rightS a.p.1 a.p.2 = a.right := rfl
  have e2 : rightS b.p.1 b.p.2 = b.right := rfl
  rw [e1, e2]
  refine Call.mk (right_ev ha) ?_
  cases ra : a.right with
  | false => exact Br.t rfl rfl
  | true =>
    refine Br.f rfl (Call.mk (right_ev hb) ?_)
    cases rb : b.right with
    | false => exact Br.t rfl rfl
    | true =>
      obtain ⟨p1, p2, p3⟩ := GRat.right_spec.1 ra
      obtain ⟨q1, q2, q3⟩ := GRat.right_spec.1 rb
      have iaN := ha.1; have iaD := ha.2; have ibN := hb.1; have ibD := hb.2
      have red := @mul_red (decide (a.N < 0) != decide (b.N < 0)) a.N.natAbs b.N.natAbs a.D.natAbs b.D.natAbs p3 q3 (by omega) (by omega)
      have lN := abs_lt iaN; have lD := abs_lt iaD; have mN := abs_lt ibN; have mD := abs_lt ibD
      have sD : IntKind.u64.wrap a.D = ((a.D.natAbs : Nat) : Int) := by unfold Sim.inI at iaD; rw [wu (by omega) (by omega)]; omega
      have tD : IntKind.u64.wrap b.D = ((b.D.natAbs : Nat) : Int) := by unfold Sim.inI at ibD; rw [wu (by omega) (by omega)]; omega
      have hD0 : a.D.natAbs ≠ 0 := by omega
      have hE0 : b.D.natAbs ≠ 0 := by omega
      simp only [Bool.and_self, if_true]
      rw [red.2]
      have hg : 0 < Nat.gcd a.N.natAbs b.D.natAbs := Nat.gcd_pos_of_pos_right _ (by omega)
      have hk : 0 < Nat.gcd b.N.natAbs a.D.natAbs := Nat.gcd_pos_of_pos_right _ (by omega)
      refine Br.f rfl (Call.mk (rsize_ev iaN) (Let.as _ tD (Call.mk (gcd_ev _ _) (Call.mk (rsize_ev ibN) (Let.as _ sD (Call.mk (gcd_ev _ _) (Call.mk (rsize_ev iaN) ⟨by omega, ?_⟩)))))))
      have dl : ∀ x y : Nat, x / y ≤ x := Nat.div_le_self
      have d1 := dl a.N.natAbs (Nat.gcd a.N.natAbs b.D.natAbs)
      have d2 := dl b.N.natAbs (Nat.gcd b.N.natAbs a.D.natAbs)
      have d3 := dl a.D.natAbs (Nat.gcd b.N.natAbs a.D.natAbs)
      have d4 := dl b.D.natAbs (Nat.gcd a.N.natAbs b.D.natAbs)
      have hz1 : a.D.natAbs / Nat.gcd b.N.natAbs a.D.natAbs ≠ 0 := by
        have := Nat.div_pos (Nat.le_of_dvd (by omega) (Nat.gcd_dvd_right b.N.natAbs a.D.natAbs)) hk; omega
      have hz2 : b.D.natAbs / Nat.gcd a.N.natAbs b.D.natAbs ≠ 0 := by
        have := Nat.div_pos (Nat.le_of_dvd (by omega) (Nat.gcd_dvd_right a.N.natAbs b.D.natAbs)) hg; omega
      have hcop := red.1
      refine Let.as _ (by rw [tdivN, wu (Int.natCast_nonneg _) (by omega)]) (Call.mk (rsize_ev ibN) ⟨by omega, Let.as _ (by rw [tdivN, wu (Int.natCast_nonneg _) (by omega)]) (Call.mk (mul64_ev _ _ (by omega) (by omega)) ?_)⟩)
      refine Let.as _ sD ⟨by omega, Let.as _ (by rw [tdivN, wu (Int.natCast_nonneg _) (by omega)]) (Let.as _ tD ⟨by omega, Let.as _ (by rw [tdivN, wu (Int.natCast_nonneg _) (by omega)]) (Call.mk (mul64_ev _ _ (by omega) (by omega)) ?_)⟩)⟩
      have hz := Nat.mul_ne_zero hz1 hz2
      generalize a.N.natAbs / Nat.gcd a.N.natAbs b.D.natAbs * (b.N.natAbs / Nat.gcd b.N.natAbs a.D.natAbs) = X at *
      generalize a.D.natAbs / Nat.gcd b.N.natAbs a.D.natAbs * (b.D.natAbs / Nat.gcd a.N.natAbs b.D.natAbs) = Y at *
      have big : ∀ X Y : Nat, Nat.gcd X Y = 1 → ¬ (X < 18446744073709551616 ∧ Y < 18446744073709551616) → ∀ s, toR (madeS s X Y) = (GRat.zero, 3) := by
        intro X Y hc hn s
        rw [madeS_cop hc, if_neg (by omega)]
      refine Br.d (fun c => ?_) (fun c => Br.d (fun d => ?_) (fun d => ?_))
      · exact (big X Y hcop (by omega) _).symm
      · exact (big X Y hcop (by omega) _).symm
      · have hX : X % 18446744073709551616 = X := by omega
        have hY : Y % 18446744073709551616 = Y := by omega
        refine Call.mk (x := toR (madeS (decide (a.N < 0) != decide (b.N < 0)) X Y)) ?_ rfl
        show Ev_rat_made _ ((X % 18446744073709551616 : Nat) : Int) ((Y % 18446744073709551616 : Nat) : Int) _
        rw [hX, hY]
        exact made_ev _ X Y (by omega) (by omega) hz
end Go.Sim.YtffglpibobogcaaGreatDoor

/- What is proved: sums and differences of numbers are the exact ones. -/
namespace Go.Sim.YtffglpibobogcaaGreatDoor
open Go.RowKit Go.Proofs Go.Proofs.Tryz
theorem sgn_mul {n : Int} (q : Nat) : (n < 0 ∧ n * (q : Int) = -((n.natAbs * q : Nat) : Int)) ∨ (0 ≤ n ∧ n * (q : Int) = ((n.natAbs * q : Nat) : Int)) := by
  by_cases h : n < 0
  · refine .inl ⟨h, ?_⟩
    rw [Int.natCast_mul, ← Int.neg_mul]; congr 1; omega
  · refine .inr ⟨by omega, ?_⟩
    rw [Int.natCast_mul]; congr 1; omega
theorem radd_ev {a b : GRat} (ha : a.inI) (hb : b.inI) : Ev_rat_Add a b (toR (addS a.p b.p)) := by
  refine walk_rat_Add ?_
  unfold W_rat_Add
  refine Call.mk (right_ev ha) ⟨fun h => ?_, fun h => ?_⟩
  · have h : rightS a.N a.D = false := by simpa [GRat.right] using h
    simp [addS, h]
  refine Call.mk (right_ev hb) ⟨fun h' => ?_, fun h' => ?_⟩
  · have h' : rightS b.N b.D = false := by simpa [GRat.right] using h'
    simp [addS, h']
  have ra : a.right = true := by simpa using h
  have rb : b.right = true := by simpa using h'
  clear h h'
  obtain ⟨a1, a2, a3⟩ := GRat.right_spec.1 ra
  obtain ⟨b1, b2, b3⟩ := GRat.right_spec.1 rb
  obtain ⟨iaN, iaD⟩ := ha
  obtain ⟨ibN, ibD⟩ := hb
  have iaN' := iaN
  have ibN' := ibN
  unfold Sim.inI at iaN' iaD ibN' ibD
  obtain ⟨d1, hd1⟩ : ∃ d : Nat, a.D = (d : Int) := ⟨a.D.natAbs, by omega⟩
  obtain ⟨d2, hd2⟩ : ∃ d : Nat, b.D = (d : Int) := ⟨b.D.natAbs, by omega⟩
  have hS0 : addS a.p b.p = madeS (decide (a.N * b.D + b.N * a.D < 0)) (a.N * b.D + b.N * a.D).natAbs (a.D.natAbs * b.D.natAbs) := by
    have e1 : rightS a.N a.D = true := ra
    have e2 : rightS b.N b.D = true := rb
    simp only [addS, e1, e2, Bool.and_self, if_true]
  simp only [hd1, hd2] at *
  simp only [Int.natAbs_natCast] at a3 b3 hS0
  refine Let.as (d1 : Int) (wu (by omega) (by omega)) (Let.as (d2 : Int) (wu (by omega) (by omega)) (Call.mk (gcd_ev d1 d2) ?_))
  obtain ⟨g, hg⟩ : ∃ g, g = Nat.gcd d1 d2 := ⟨_, rfl⟩
  obtain ⟨p, hp⟩ : ∃ p, p = d1 / g := ⟨_, rfl⟩
  obtain ⟨q, hq⟩ : ∃ q, q = d2 / g := ⟨_, rfl⟩
  obtain ⟨S, hS⟩ : ∃ S, S = a.N * q + b.N * p := ⟨_, rfl⟩
  obtain ⟨k, hk⟩ : ∃ k, k = Nat.gcd S.natAbs g := ⟨_, rfl⟩
  rw [← hg]
  obtain ⟨g0, k0, kS, kg, e1, e2, cop, hsum, hmade⟩ := add_red a3 b3 (by omega) hg hp hq hS hk
  have hpb : p ≤ d1 := by rw [hp]; exact Nat.div_le_self _ _
  have hqb : q ≤ d2 := by rw [hq]; exact Nat.div_le_self _ _
  have hgb : g ≤ d1 := by rw [hg]; exact Nat.gcd_le_left _ (by omega)
  have hp0 : p ≠ 0 := fun h => by rw [h] at e1; omega
  have hq0 : q ≠ 0 := fun h => by rw [h] at e2; omega
  refine Let.as (d1 : Int) (wu (by omega) (by omega)) ⟨by omega, Let.as (p : Int) (by rw [← Int.ofNat_tdiv, ← hp, wu (by omega) (by omega)]) ?_⟩
  refine Let.as (d2 : Int) (wu (by omega) (by omega)) ⟨by omega, Let.as (q : Int) (by rw [← Int.ofNat_tdiv, ← hq, wu (by omega) (by omega)]) ?_⟩
  refine Call.mk (rsize_ev iaN) (Call.mk (mul64_ev _ _ (by omega) (by omega)) (Call.mk (rsize_ev ibN) (Call.mk (mul64_ev _ _ (by omega) (by omega)) ?_)))
  have sx := @sgn_mul a.N q
  have sy := @sgn_mul b.N p
  have bx := bd126 (a := a.N.natAbs) (b := q) (by omega) (by omega)
  have bY := bd126 (a := b.N.natAbs) (b := p) (by omega) (by omega)
  obtain ⟨X, hX⟩ : ∃ X, X = a.N.natAbs * q := ⟨_, rfl⟩
  obtain ⟨Y, hY⟩ : ∃ Y, Y = b.N.natAbs * p := ⟨_, rfl⟩
  rw [← hX] at sx bx ⊢
  rw [← hY] at sy bY ⊢
  obtain ⟨A, hA⟩ : ∃ A, A = a.N * (q : Int) := ⟨_, rfl⟩
  obtain ⟨B, hB⟩ : ∃ B, B = b.N * (p : Int) := ⟨_, rfl⟩
  rw [← hA] at sx hS
  rw [← hB] at sy hS
  refine ⟨fun h l s => ∃ H L : Nat, h = (H : Int) ∧ l = (L : Int) ∧ L < 18446744073709551616 ∧ H < 18446744073709551616 ∧ H * 18446744073709551616 + L = S.natAbs ∧ (S ≠ 0 → s = decide (S < 0)), ?_, ?_⟩
  · refine ⟨fun hs => ?_, fun hs => ?_⟩
    · have hs : (a.N < 0 ↔ b.N < 0) := by simpa using hs
      refine Call.mk (add64_ev (X % 18446744073709551616) (Y % 18446744073709551616) 0 (by omega)) ?_
      refine Let.as ((Y / 18446744073709551616 + (X % 18446744073709551616 + Y % 18446744073709551616 + 0) / 18446744073709551616 : Nat) : Int) (by rw [← Int.natCast_add, wu (by omega) (by omega)]) ?_
      refine Let.as ((X / 18446744073709551616 + (Y / 18446744073709551616 + (X % 18446744073709551616 + Y % 18446744073709551616 + 0) / 18446744073709551616) : Nat) : Int) (by rw [← Int.natCast_add, wu (by omega) (by omega)]) ?_
      refine ⟨_, _, rfl, rfl, by omega, by omega, by omega, fun h0 => ?_⟩
      by_cases hn : a.N < 0
      · rw [decide_eq_true hn, decide_eq_true (by omega)]
      · rw [decide_eq_false hn, decide_eq_false (by omega)]
    · have hs : ¬ (a.N < 0 ↔ b.N < 0) := by simpa using hs
      refine ⟨fun c => c = decide (Y ≤ X), Br.d (fun h => ?_) (fun h => Br.e (fun h2 => ?_) (fun h2 => ?_)), ?_⟩
      · exact (decide_eq_true (by omega)).symm
      · show decide _ = decide _
        by_cases h3 : Y ≤ X
        · rw [decide_eq_true h3, decide_eq_true (by omega)]
        · rw [decide_eq_false h3, decide_eq_false (by omega)]
      · exact (decide_eq_false (by omega)).symm
      · rintro _ rfl
        refine Br.d (fun h => ?_) (fun h => ?_)
        · refine Call.mk (sub64_ev (X % 18446744073709551616) (Y % 18446744073709551616) 0 (by omega)) ?_
          obtain ⟨c, hc⟩ : ∃ c : Nat, c = if X % 18446744073709551616 < Y % 18446744073709551616 + 0 then 1 else 0 := ⟨_, rfl⟩
          rw [← hc]
          have hc' : (X % 18446744073709551616 < Y % 18446744073709551616 ∧ c = 1) ∨ (Y % 18446744073709551616 ≤ X % 18446744073709551616 ∧ c = 0) := by split at hc <;> omega
          clear hc
          refine Let.as ((Y / 18446744073709551616 + c : Nat) : Int) (by rw [← Int.natCast_add, wu (by omega) (by omega)]) ?_
          refine Let.as ((X / 18446744073709551616 - (Y / 18446744073709551616 + c) : Nat) : Int) (by rw [wu (by omega) (by omega)]; omega) ?_
          refine ⟨_, _, rfl, rfl, by omega, by omega, by omega, fun h0 => ?_⟩
          by_cases hn : a.N < 0
          · rw [decide_eq_true hn, decide_eq_true (by omega)]
          · rw [decide_eq_false hn, decide_eq_false (by omega)]
        · refine Call.mk (sub64_ev (Y % 18446744073709551616) (X % 18446744073709551616) 0 (by omega)) ?_
          obtain ⟨c, hc⟩ : ∃ c : Nat, c = if Y % 18446744073709551616 < X % 18446744073709551616 + 0 then 1 else 0 := ⟨_, rfl⟩
          rw [← hc]
          have hc' : (Y % 18446744073709551616 < X % 18446744073709551616 ∧ c = 1) ∨ (X % 18446744073709551616 ≤ Y % 18446744073709551616 ∧ c = 0) := by split at hc <;> omega
          clear hc
          refine Let.as ((Y / 18446744073709551616 - X / 18446744073709551616 : Nat) : Int) (by rw [wu (by omega) (by omega)]; omega) ?_
          refine Let.as ((Y / 18446744073709551616 - X / 18446744073709551616 - c : Nat) : Int) (by rw [wu (by omega) (by omega)]; omega) ?_
          refine ⟨_, _, rfl, rfl, by omega, by omega, by omega, fun h0 => ?_⟩
          by_cases hn : b.N < 0
          · rw [decide_eq_true hn, decide_eq_true (by omega)]
          · rw [decide_eq_false hn, decide_eq_false (by omega)]
  · rintro _ _ s ⟨H, L, rfl, rfl, hL, hH, hHL, hs⟩
    have hM : addS a.p b.p = madeS s (S.natAbs / k) (p * (g / k) * q) := by
      rw [hS0, hsum, Int.natAbs_mul, Int.natAbs_natCast, hmade]
      by_cases h0 : S = 0
      · have : p * (g / k) * q ≠ 0 := Nat.mul_ne_zero (Nat.mul_ne_zero hp0 (Nat.ne_of_gt (Nat.div_pos (Nat.le_of_dvd g0 kg) k0))) hq0
        rw [h0, Int.natAbs_zero, Nat.zero_div, madeS_zero this, madeS_zero this]
      · rw [hs h0]
        congr 1
        have : S * g < 0 ↔ S < 0 := by
          constructor
          · intro h; exact Int.not_le.1 fun h2 => absurd (Int.mul_nonneg h2 (show (0 : Int) ≤ g by omega)) (by omega)
          · intro h; exact Int.mul_neg_of_neg_of_pos h (by omega)
        simp [this]
    rw [hM]
    have hSk : S.natAbs / k * k = S.natAbs := Nat.div_mul_cancel kS
    have hkg : k ≤ g := Nat.le_of_dvd g0 kg
    refine Call.mk (rem64_ev H L g hL (by omega) (by omega)) (Call.mk (gcd_ev _ _) ?_)
    rw [hHL, ← Nat.gcd_rec, Nat.gcd_comm, ← hk]
    refine Br.eF (by omega) (Br.d (fun h => ?_) (fun h => ?_))
    · have : 18446744073709551616 ≤ S.natAbs / k := by
        refine (Nat.le_div_iff_mul_le k0).2 ?_
        have := Nat.mul_le_mul_right 18446744073709551616 (show k ≤ H by omega)
        rw [Nat.mul_comm]
        omega
      rw [madeS_cop cop, if_neg (by omega)]
    · have hn : S.natAbs / k < 18446744073709551616 := Nat.div_lt_of_lt_mul (by have := Nat.mul_le_mul_right 18446744073709551616 (show H + 1 ≤ k by omega); omega)
      refine Call.mk (div64_ev H L k hL (by omega) (by omega)) ?_
      rw [hHL]
      have hgk : p * (g / k) ≤ d1 := by rw [e1]; exact Nat.mul_le_mul_left _ (Nat.div_le_self _ _)
      have hd0 : p * (g / k) * q ≠ 0 := Nat.mul_ne_zero (Nat.mul_ne_zero hp0 (Nat.ne_of_gt (Nat.div_pos hkg k0))) hq0
      refine Br.e (fun h0 => ?_) (fun h0 => ⟨by omega, ?_⟩)
      · have : S.natAbs / k = 0 := Int.natCast_eq_zero.1 h0
        rw [this, madeS_zero hd0]
      · refine Let.as ((g / k : Nat) : Int) (by rw [← Int.ofNat_tdiv, wu (Int.natCast_nonneg _) (by have := Nat.div_le_self g k; omega)]) ?_
        refine Let.as ((p * (g / k) : Nat) : Int) (by rw [← Int.natCast_mul, wu (by omega) (by omega)]) ?_
        refine Call.mk (mul64_ev _ _ (by omega) (by omega)) (Br.d (fun h1 => ?_) (fun h1 => ?_))
        · rw [madeS_cop cop, if_neg (by simp only at h1; omega)]
        · have e : p * (g / k) * q % 18446744073709551616 = p * (g / k) * q := Nat.mod_eq_of_lt (by simp only at h1; omega)
          simp only [e]
          exact Call.mk (made_ev s _ _ hn (by simp only at h1; omega) hd0) rfl
end Go.Sim.YtffglpibobogcaaGreatDoor
