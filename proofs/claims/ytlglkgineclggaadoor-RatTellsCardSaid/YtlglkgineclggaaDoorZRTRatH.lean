/- What is proved: rat.Hold is the least interval of floats around a number. -/
import Derived.Test.YtlglkgineclggaaDoorZRTIvalM
namespace Go.Sim.YtlglkgineclggaaDoor
open Go.RowKit Go.Proofs Go.Proofs.Tryd
set_option exponentiation.threshold 5000
/-- Two amounts with the same whole units, both exact or both not, are rounded to one word. -/
theorem rnd_same {v : Gulpvalue} {hi lo N A B A' B' s : Nat} {g : Bool} {d : Int} (h : Amount v hi lo N A B) (h' : Amount v hi lo N A' B') (hs0 : 1 ≤ s) (hs : (s : Int) = max ((blen N : Int) - 53) (-1074 - v.e_)) : rnd g A B d = rnd g A' B' d := by
  obtain ⟨_, _, _, r4, r5⟩ := round_core h hs0 hs
  obtain ⟨_, _, _, q4, q5⟩ := round_core h' hs0 hs
  have key : ∀ c : Int, rndR A B c = rndR A' B' c := by
    intro c
    unfold rndR
    have e : fr (A / B) = fr (A' / B') := by rw [r4, q4]
    by_cases hu : upR (fr (A / B)) A B c
    · rw [if_pos hu, if_pos ((q5 c).2 ((r5 c).1 hu)), e]
    · rw [if_neg hu, if_neg (fun h2 => hu ((r5 c).2 ((q5 c).1 h2))), e]
  unfold rnd
  rw [key]
theorem norm64 {n : Nat} (h0 : n ≠ 0) (h : n < 18446744073709551616) : 9223372036854775808 ≤ n * 2 ^ (64 - blen n) ∧ n * 2 ^ (64 - blen n) < 18446744073709551616 := by
  have := norm_bd h0 ((blen_le n 64).2 (by simpa using h))
  simpa using this
/-- The interval of P / Q: the places around it. -/
theorem fin_rd {P : Int} {Q : Nat} (hQ : 0 < Q) (h1 : fV (-9218868437227405311) * Q ≤ P) (h2 : fV (-9218868437227405311) * Q ≤ -P) : FinI ⟨rd P Q (-1), rd P Q 1⟩ := by
  have a1 := (le_dp (P := P) (i := -9218868437227405311) hQ (by omega) (by omega)).2 h1
  have a2 := (le_dp (P := -P) (i := -9218868437227405311) hQ (by omega) (by omega)).2 h2
  have b1 := dp_range P Q
  have b2 := dp_range (-P) Q
  have e1 := fI_rd_dn (P := P) (Q := Q)
  have e2 := fI_rd_up (P := P) hQ
  refine { l := (rd_ok _ _ _).1, h := (rd_ok _ _ _).1, fl := ?_, fh := ?_, zl := (rd_ok _ _ _).2.1, zh := (rd_ok _ _ _).2.1, le := ?_ }
  · show isF (rd P Q (-1)); unfold isF; rw [e1]; omega
  · show isF (rd P Q 1); unfold isF; rw [e2]; omega
  · show fI (rd P Q (-1)) ≤ fI (rd P Q 1)
    rw [e1, e2]
    have c1 := (le_dp (P := P) hQ a1 b1.2).1 (Int.le_refl _)
    have c2 := (le_dp (P := -P) hQ a2 b2.2).1 (Int.le_refl _)
    have c3 : (fV (dp P Q) + fV (dp (-P) Q)) * Q ≤ 0 := by rw [Int.add_mul]; omega
    have c4 : fV (dp P Q) + fV (dp (-P) Q) ≤ 0 := by
      by_cases h : fV (dp P Q) + fV (dp (-P) Q) ≤ 0
      · exact h
      · have := Int.mul_pos (show 0 < fV (dp P Q) + fV (dp (-P) Q) by omega) (show (0 : Int) < Q by omega); omega
    have c5 : fV (dp P Q) ≤ fV (-dp (-P) Q) := by rw [fV_neg]; omega
    exact fV_le_iff.1 c5
/-- A unit, in the least amounts. -/
@[irreducible] def T74 : Nat := 2 ^ 1074
theorem T74_pos : 0 < T74 := by unfold T74; exact Nat.two_pow_pos _
theorem T74_split : T74 = 4611686018427387904 * 2 ^ 1012 := by
  unfold T74
  rw [show (4611686018427387904 : Nat) = 2 ^ 62 by decide, ← Nat.pow_add]
/-- The quotient's whole units and one bit more are rounded as the quotient. -/
theorem sticky {n dd p q x y quo rem m xx : Nat} {E : Int} {g : Bool} (hpb : p ≤ 63) (hqb : q ≤ 63) (hx : n * 2 ^ p = x) (hy : dd * 2 ^ q = y) (hD0 : dd ≠ 0) (y1 : 9223372036854775808 ≤ y)
    (hdm : y * quo + rem = x * 4611686018427387904) (hrl : rem < y) (hqlt : quo < 9223372036854775808) (hqge : 2305843009213693952 ≤ quo) (hm : m = quo * 2 + (if rem = 0 then 0 else 1))
    (hE : E = (q : Int) - p - 63) (hxx : (xx : Int) = E + 1074) (d : Int) : rnd g (m * 2 ^ xx) (2 ^ 0) d = rnd g (n * T74) dd d := by
  have hbq : 62 ≤ blen quo := by
    by_cases hc : 62 ≤ blen quo
    · exact hc
    · have := (blen_le quo 61).1 (by omega)
      simp only [Nat.reducePow] at this; omega
  refine rnd_same (v := ⟨false, 0, (quo : Int), E + 1, decide (rem ≠ 0)⟩) (hi := 0) (lo := quo) (N := quo) (s := (max ((blen quo : Int) - 53) (-1074 - (E + 1))).toNat) ?_ ?_ ?_ ?_
  · refine ⟨by omega, rfl, rfl, by decide, by omega, ⟨by show -10000 ≤ E + 1; omega, by show E + 1 ≤ 10000; omega⟩, by decide, ⟨2 ^ (xx + 1), 0, xx + 1, by rw [Nat.pow_zero, Nat.mul_one, Nat.one_mul], by show E + 1 + 1074 = _; omega, ?_, ?_, ?_⟩, fun _ => by omega⟩
    · rw [Nat.pow_succ, Nat.mul_comm (2 ^ xx), ← Nat.mul_assoc]
      exact Nat.mul_le_mul_right _ (by rw [hm]; omega)
    · rw [Nat.pow_succ, Nat.mul_comm (2 ^ xx), ← Nat.mul_assoc]
      exact Nat.mul_lt_mul_of_pos_right (by rw [hm]; split <;> omega) (Nat.two_pow_pos _)
    · show decide (rem ≠ 0) = true ↔ _
      rw [decide_eq_true_iff, Nat.pow_succ, Nat.mul_comm (2 ^ xx), ← Nat.mul_assoc, hm]
      constructor
      · intro h e
        have := Nat.eq_of_mul_eq_mul_right (Nat.two_pow_pos xx) e
        rw [if_neg h] at this; omega
      · intro h e
        rw [if_pos e, Nat.add_zero] at h; exact h rfl
  · -- the number itself
    have hU : ∀ k : Nat, (k * (dd * 2 ^ (xx + 1))) * 2 ^ p = k * y * 2 ^ 1012 := by
      intro k
      have e : xx + 1 + p = q + 1012 := by omega
      rw [← hy, Nat.mul_assoc k, Nat.mul_assoc dd, ← Nat.pow_add, e, Nat.pow_add, ← Nat.mul_assoc dd, ← Nat.mul_assoc k]
    have hA : n * T74 * 2 ^ p = x * 4611686018427387904 * 2 ^ 1012 := by
      rw [← hx, T74_split]
      generalize 2 ^ 1012 = W
      rw [← Nat.mul_assoc, Nat.mul_right_comm (n * 4611686018427387904) W, Nat.mul_right_comm n 4611686018427387904]
    have p2p := Nat.two_pow_pos p
    have p1012 := Nat.two_pow_pos 1012
    refine ⟨by omega, rfl, rfl, by decide, by omega, ⟨by show -10000 ≤ E + 1; omega, by show E + 1 ≤ 10000; omega⟩, by omega, ⟨dd * 2 ^ (xx + 1), 0, xx + 1, by rw [Nat.pow_zero, Nat.mul_one], by show E + 1 + 1074 = _; omega, ?_, ?_, ?_⟩, fun _ => by omega⟩
    · refine Nat.le_of_mul_le_mul_right ?_ p2p
      rw [hU, hA]
      exact Nat.mul_le_mul_right _ (by rw [Nat.mul_comm]; omega)
    · refine Nat.lt_of_mul_lt_mul_right (a := 2 ^ p) ?_
      rw [hU, hA]
      exact Nat.mul_lt_mul_of_pos_right (by rw [Nat.add_mul, Nat.mul_comm quo]; omega) p1012
    · show decide (rem ≠ 0) = true ↔ _
      rw [decide_eq_true_iff]
      constructor
      · intro h e
        have e2 : n * T74 * 2 ^ p = quo * (dd * 2 ^ (xx + 1)) * 2 ^ p := by rw [e]
        rw [hU, hA] at e2
        have := Nat.eq_of_mul_eq_mul_right p1012 e2
        rw [Nat.mul_comm quo] at this; omega
      · intro h e
        refine h (Nat.eq_of_mul_eq_mul_right p2p ?_)
        rw [hU, hA, Nat.mul_comm quo, ← hdm, e, Nat.add_zero]
  · omega
  · show (((max ((blen quo : Int) - 53) (-1074 - (E + 1))).toNat : Nat) : Int) = max ((blen quo : Int) - 53) (-1074 - (E + 1))
    omega
theorem hold_ev {a : GRat} (ha : a.inI) (hr : a.right = true) (hfin : FinI ⟨rd (a.N * (T74 : Int)) a.D.natAbs (-1), rd (a.N * (T74 : Int)) a.D.natAbs 1⟩) :
    Ev_rat_Hold a ⟨rd (a.N * (T74 : Int)) a.D.natAbs (-1), rd (a.N * (T74 : Int)) a.D.natAbs 1⟩ := by
  obtain ⟨p1, p2, p3⟩ := GRat.right_spec.1 hr
  have iN := ha.1
  have iD := ha.2
  have lN := abs_lt iN
  have lD := abs_lt iD
  have hD0 : a.D.natAbs ≠ 0 := by omega
  have hT : (0 : Int) < (T74 : Int) := by have := T74_pos; omega
  refine walk_rat_Hold ?_
  unfold W_rat_Hold
  refine Call.mk (right_ev ha) (Br.f (by rw [hr]; rfl) (Br.e (fun h0 => ?_) (fun h0 => ?_)))
  · have e : ∀ d, rd (a.N * (T74 : Int)) a.D.natAbs d = 0 := by
      intro d
      rw [h0, Int.zero_mul]; exact rnd_zero (by omega)
    rw [e, e]
  · have hN0 : a.N.natAbs ≠ 0 := by omega
    have sD : IntKind.u64.wrap a.D = ((a.D.natAbs : Nat) : Int) := by unfold Sim.inI at iD; rw [wu (by omega) (by omega)]; omega
    have bn := (blen_le a.N.natAbs 64).2 (by simpa using lN)
    have bd := (blen_le a.D.natAbs 64).2 (by simpa using lD)
    have bn1 : 1 ≤ blen a.N.natAbs := by rw [blen_pos hN0]; omega
    have bd1 : 1 ≤ blen a.D.natAbs := by rw [blen_pos hD0]; omega
    obtain ⟨x1, x2⟩ := norm64 hN0 lN
    obtain ⟨y1, y2⟩ := norm64 hD0 lD
    have hneg : decide (a.N * (T74 : Int) < 0) = decide (a.N < 0) := by
      rw [decide_eq_decide]
      constructor
      · intro h
        by_cases hc : a.N < 0
        · exact hc
        · have := Int.mul_nonneg (show 0 ≤ a.N by omega) (Int.le_of_lt hT); omega
      · intro h; exact Int.mul_neg_of_neg_of_pos h hT
    have habs : (a.N * (T74 : Int)).natAbs = a.N.natAbs * T74 := by rw [Int.natAbs_mul, Int.natAbs_natCast]
    generalize hn : a.N.natAbs = n at *
    generalize hd : a.D.natAbs = dd at *
    generalize hp : 64 - blen n = p at *
    generalize hq : 64 - blen dd = q at *
    have hpb : p ≤ 63 := by omega
    have hqb : q ≤ 63 := by omega
    generalize hx : n * 2 ^ p = x at *
    generalize hy : dd * 2 ^ q = y at *
    have hxlt : x / 4 < y := by omega
    have hdv : x / 4 * 18446744073709551616 + x * 4611686018427387904 % 18446744073709551616 = x * 4611686018427387904 := by omega
    generalize hquo : x * 4611686018427387904 / y = quo
    generalize hrem : x * 4611686018427387904 % y = rem
    have hdm := Nat.div_add_mod (x * 4611686018427387904) y
    rw [hquo, hrem] at hdm
    have hrl := Nat.mod_lt (x * 4611686018427387904) (show y > 0 by omega)
    rw [hrem] at hrl
    have hqlt : quo < 9223372036854775808 := by
      rw [← hquo]; exact (Nat.div_lt_iff_lt_mul (by omega)).2 (by omega)
    have hqge : 2305843009213693952 ≤ quo := by
      rw [← hquo]; exact (Nat.le_div_iff_mul_le (by omega)).2 (by omega)
    refine Call.mk (x := (n : Int)) (by rw [← hn]; exact rsize_ev iN) (Let.as _ sD (Call.mk (x := (p : Int)) (by rw [← hp]; exact lz64_ev n lN) (Call.mk (x := (q : Int)) (by rw [← hq]; exact lz64_ev dd lD) ⟨by omega, ?_⟩)))
    refine Let.as (x : Int) ((shlN n p (by omega)).trans (by rw [hx, Nat.mod_eq_of_lt x2])) ⟨by omega, Let.as (y : Int) ((shlN dd q (by omega)).trans (by rw [hy, Nat.mod_eq_of_lt y2])) ?_⟩
    refine Let.as ((x / 4 : Nat) : Int) (by rw [shrC]) (Let.as ((x * 4611686018427387904 % 18446744073709551616 : Nat) : Int) (by rw [show (x : Int) * 2 ^ 62 = ((x * 4611686018427387904 : Nat) : Int) by omega, wuN]) ?_)
    refine Call.mk (x := ((quo : Int), (rem : Int))) ?_ ?_
    · have := div64_ev (x / 4) (x * 4611686018427387904 % 18446744073709551616) y (by omega) y2 hxlt
      rw [hdv, hquo, hrem] at this
      exact this
    · refine Let.as ((quo * 2 : Nat) : Int) (by rw [show (quo : Int) * 2 ^ 1 = ((quo * 2 : Nat) : Int) by omega, wu (by omega) (by omega)]) ?_
      obtain ⟨m, hm⟩ : ∃ m : Nat, m = quo * 2 + (if rem = 0 then 0 else 1) := ⟨_, rfl⟩
      have horr : bits .or .u64 ((quo * 2 : Nat) : Int) 1 = ((1 + quo * 2 : Nat) : Int) := or_ok' (c := 1) (x := quo * 2) (s := 1) (by decide) (by rw [Nat.pow_one]; exact Nat.mul_mod_left _ _) (by decide) (by omega)
      refine ⟨fun z => z = (m : Int), ?_, fun z hz => ?_⟩
      · refine Br.d (fun h => Let.as ((1 + quo * 2 : Nat) : Int) horr ?_) (fun h => ?_)
        · show ((1 + quo * 2 : Nat) : Int) = (m : Int)
          have h9 : rem ≠ 0 := by omega
          have : m = quo * 2 + 1 := by rw [hm, if_neg h9]
          rw [this, Nat.add_comm]
        · show ((quo * 2 : Nat) : Int) = (m : Int)
          have h9 : rem = 0 := by omega
          have : m = quo * 2 := by rw [hm, if_pos h9, Nat.add_zero]
          rw [this]
      subst hz
      have hmb : m < 18446744073709551616 := by rw [hm]; split <;> omega
      -- the word of m 2^E is that of the number
      obtain ⟨E, hE⟩ : ∃ E : Int, E = (q : Int) - p - 63 := ⟨_, rfl⟩
      obtain ⟨xx, hxx⟩ : ∃ xx : Nat, (xx : Int) = E + 1074 := ⟨(E + 1074).toNat, by omega⟩
      have same : ∀ d : Int, rnd (decide (a.N < 0)) (m * 2 ^ xx) (2 ^ 0) d = rd (a.N * (T74 : Int)) dd d := by
        intro d
        unfold rd
        rw [hneg, habs]
        exact sticky hpb hqb hx hy hD0 y1 hdm hrl hqlt hqge hm hE hxx d
      refine Let.as ((q : Int) - p) (wi (by omega) (by omega)) (Let.as E (by rw [wi (by omega) (by omega), hE]) ?_)
      refine Call.mk (roundp_ev (-1) hmb (by omega) (x := xx) (y := 0) (by omega)) (Call.mk (roundp_ev 1 hmb (by omega) (x := xx) (y := 0) (by omega)) ?_)
      rw [same, same]
      exact Call.mk (make_ev2 hfin) rfl
end Go.Sim.YtlglkgineclggaaDoor
