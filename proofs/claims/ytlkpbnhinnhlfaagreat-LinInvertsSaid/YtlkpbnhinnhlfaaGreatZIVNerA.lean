/- What is proved: math.Abs, Frexp and Ldexp yield floats, whatever they are given. -/
import Derived.Test.YtlkpbnhinnhlfaaGreatZIVFltD
import Derived.Test.YtlkpbnhinnhlfaaGreatZIVWNq
import Derived.Laws.Closers25b

namespace Go.Sim.YtlkpbnhinnhlfaaGreat
open Go.RowKit Go.Proofs Go.Proofs.Tryz
theorem any_math_Abs : AFn prog 39 [.any anyF] (.any anyF) false :=
  AFn.anyArg fun b hb => AFn.anyRes (b := rungB b) (by have := rung_lt hb; omega) (abs_ev hb)
theorem u64_nat (op : BinOp) (x y : Int) : ∃ n : Nat, n < 18446744073709551616 ∧ bits op .u64 x y = (n : Int) := by
  have h1 := (bits_within op .u64 x y).1
  have h2 := (bits_within op .u64 x y).2
  simp only [IntKind.min, IntKind.max, IntKind.bits, IntKind.signed] at h1 h2
  simp only [Bool.false_eq_true, if_false] at h1 h2
  exact ⟨(bits op .u64 x y).toNat, by omega, by omega⟩
theorem mul_some {b c : Nat} (hb : b < 18446744073709551616) (hc : c < 18446744073709551616) (fb : isF b) (fc : isF c) : ∃ r, farith .mul .f64 b c = some r ∧ r < 18446744073709551616 := by
  obtain ⟨m, i, e1, _⟩ := read_num hb fb
  obtain ⟨m', i', e2, _⟩ := read_num hc fc
  refine ⟨Ieee.double.write (.number (negB b ^^ negB c) (m * m') (i + i')), ?_, write_lt _⟩
  show (Ieee.double.mul b c) = _
  unfold Ieee.Format.mul
  rw [e1, e2]; rfl
theorem normalize_some {b : Nat} (hb : b < 18446744073709551616) (fb : isF b) : ∃ y e, Ev_math_normalize b (y, e) ∧ y < 18446744073709551616 := by
  obtain ⟨r, hr, hl⟩ := mul_some (c := 4841369599423283200) hb (by decide) fb (by unfold isF; decide)
  by_cases c : (FloatKind.f64.format.order (rungB b) (4503599627370496 : Nat) == some .lt) = true
  · exact ⟨r, -52, walk_math_normalize (by unfold W_math_normalize; exact Call.mk (abs_ev hb) (Br.t c ⟨r, hr, rfl⟩)), hl⟩
  · exact ⟨b, 0, walk_math_normalize (by unfold W_math_normalize; exact Call.mk (abs_ev hb) (Br.f (by simpa using c) rfl)), hb⟩
theorem frexp_some {b : Nat} (hb : b < 18446744073709551616) : ∃ r : Nat × Int, Ev_math_Frexp b r ∧ r.1 < 18446744073709551616 ∧ okInt .i64 r.2 := by
  have z : okInt .i64 0 := by unfold okInt; decide
  have key : ∃ r : Nat × Int, Ev_math_frexp b r ∧ r.1 < 18446744073709551616 ∧ okInt .i64 r.2 := by
    by_cases c0 : (FloatKind.f64.format.order b (0 : Nat) == some .eq) = true
    · exact ⟨(b, 0), walk_math_frexp (by unfold W_math_frexp; exact Br.t c0 rfl), hb, z⟩
    by_cases c1 : rungB b = 9218868437227405312
    · exact ⟨(b, 0), walk_math_frexp (by unfold W_math_frexp; exact Br.f (by simpa using c0) (Call.mk (isInf0_ev hb) (Br.dT c1 rfl))), hb, z⟩
    by_cases c2 : isN b
    · have fb : isF b := isF_rung.2 (by have := isN_rung.1 c2; omega)
      obtain ⟨y, e, h1, hy⟩ := normalize_some hb fb
      obtain ⟨n, hn, en⟩ := u64_nat .or (bits .andNot .u64 (y : Int) (9218868437227405312 : Int)) (4602678819172646912 : Int)
      refine ⟨(n, IntKind.i64.wrap (e + IntKind.i64.wrap (IntKind.i64.wrap (IntKind.i64.wrap (bits .and .u64 (Int.fdiv (y : Int) (2 ^ 52)) (2047 : Int)) - (1023 : Int)) + (1 : Int)))), walk_math_frexp ?_, hn, wrap_within .i64 _⟩
      unfold W_math_frexp
      refine Br.f (by simpa using c0) (Call.mk (isInf0_ev hb) (Br.dF c1 (Call.mk (isNaN_ev hb) (Br.f (by simp [c2]) (Call.mk h1 (Call.mk (float64bits_ev y) ?_))))))
      refine Let.it (Let.it (Let.it (Let.it (Let.it (Let.it (Let.it (Let.it ?_)))))))
      rw [en]
      exact Call.mk (float64frombits_ev n) rfl
    · exact ⟨(b, 0), walk_math_frexp (by unfold W_math_frexp; exact Br.f (by simpa using c0) (Call.mk (isInf0_ev hb) (Br.dF c1 (Call.mk (isNaN_ev hb) (Br.t (by simp [c2]) rfl))))), hb, z⟩
  obtain ⟨r, h1, h2⟩ := key
  exact ⟨r, walk_math_Frexp (by unfold W_math_Frexp; exact Call.mk h1 rfl), h2⟩
theorem any_math_Frexp : AFn prog 73 [.any anyF] (.tup [.any anyF, .any anyI]) false :=
  AFn.anyArg fun b hb => by
    obtain ⟨r, h1, h2, h3⟩ := frexp_some hb
    refine ⟨h1.1, fun F w vs hg hv => (h1.2 F w vs hg hv).mono ?_⟩
    rintro e w' ⟨v, e1, e2, us, rfl, hu⟩
    refine ⟨_, e1, e2, us, rfl, ?_⟩
    cases hu with
    | cons k1 hu =>
    cases hu with
    | cons k2 hu =>
    cases hu
    simp only [DV.agg, Bool.false_eq_true, false_and, true_and, false_or, RepD, List.cons.injEq, and_true] at k1 k2
    refine .cons (.inr ⟨rfl, ?_⟩) (.cons (.inr ⟨rfl, ?_⟩) .nil)
    · simp only [RepD]; exact ⟨_, rfl, by rw [k1.1]; rfl, _, h2, k1.1⟩
    · simp only [RepD]; exact ⟨_, rfl, by rw [k2.1]; rfl, _, h3, k2.1⟩
/-- 1 times a power of two. -/
theorem ldexp_some (e : Int) : ∃ r, Ev_math_Ldexp 4607182418800017408 e r ∧ r < 18446744073709551616 := by
  have key : ∃ r, Ev_math_ldexp 4607182418800017408 e r ∧ r < 18446744073709551616 := by
    have n1 : Ev_math_normalize 4607182418800017408 (4607182418800017408, 0) := walk_math_normalize (by
      unfold W_math_normalize
      exact Call.mk (abs_ev (by decide)) (Br.f (by rw [fmt64, order_lt (by decide) (by decide)]; decide) rfl))
    have hand : bits .and .i64 (1023 : Int) 2047 = 1023 := by decide
    have hand2 : bits .andNot .u64 (4607182418800017408 : Int) (9218868437227405312 : Int) = 0 := by decide
    obtain ⟨E, hE⟩ : ∃ E, E = IntKind.i64.wrap (IntKind.i64.wrap (e + 0) + 0) := ⟨_, rfl⟩
    -- the way to where the cases part
    have pre : ∀ {q : Nat → Prop}, (Br (decide (E < (-1075 : Int))) (Call (Ev_math_Copysign (0 : Nat) 4607182418800017408) q) (
         Br (decide (E > (1023 : Int))) (Call (Ev_math_Inf (1 : Int)) q) (
          Join2 (fun j48 => Br (decide (E < (-1022 : Int))) (Let (IntKind.i64.wrap (E + (53 : Int))) fun x49 => j48 x49 (4368491638549381120 : Nat)) (j48 E (4607182418800017408 : Nat)))
           (fun (exp46 : Int) (m47 : Nat) =>
            Let (IntKind.i64.wrap (exp46 + (1023 : Int))) fun x51 => Let (IntKind.u64.wrap x51) fun x52 => Let (IntKind.u64.wrap (x52 * 2 ^ 52)) fun x53 =>
            Let (bits .or .u64 0 x53) fun x54 => Call (Ev_math_Float64frombits x54) fun x55 => FOp .mul m47 x55 q)))) → W_math_ldexp 4607182418800017408 e q := by
      intro q h
      unfold W_math_ldexp
      refine Br.f (by rw [eq_zero (by decide)]; decide) (Call.mk (isInf0_ev (by decide)) (Br.dF (by decide) (Call.mk (isNaN_ev (by decide)) (Br.f (by decide) (Call.mk n1 ?_)))))
      refine Let.it (Call.mk (float64bits_ev _) (Let.as 1023 (by decide) (Let.as 1023 (by decide) (Let.as 1023 hand (Let.as 0 (by decide) (Let.as E hE.symm ?_))))))
      refine ⟨fun c => h.1 c, fun c => ?_⟩
      have h2 := h.2 c
      refine ⟨fun c => Br.f (by rw [fmt64, order_lt (by decide) (by decide)]; decide) (h2.1 c), fun c => ?_⟩
      obtain ⟨J, k1, k2⟩ := h2.2 c
      exact ⟨J, k1, fun x y hxy => Let.as 0 hand2 (k2 x y hxy)⟩
    have fin : ∀ (m : Nat) (x : Int), m < 18446744073709551616 → isF m → -1022 ≤ x → x ≤ 1023 → ∃ r, r < 18446744073709551616 ∧ ∀ {q : Nat → Prop}, q r → 
        Let (IntKind.i64.wrap (x + (1023 : Int))) fun x51 => Let (IntKind.u64.wrap x51) fun x52 => Let (IntKind.u64.wrap (x52 * 2 ^ 52)) fun x53 =>
            Let (bits .or .u64 0 x53) fun x54 => Call (Ev_math_Float64frombits x54) fun x55 => FOp .mul m x55 q := by
      intro m x hm fm h1 h2
      obtain ⟨k, hk⟩ : ∃ k : Nat, x + 1023 = (k : Int) := ⟨(x + 1023).toNat, by omega⟩
      have hb : k * 4503599627370496 < 18446744073709551616 := by omega
      obtain ⟨r, hr, hl⟩ := mul_some hm hb fm (isF_rung.2 (by unfold rungB; rw [if_pos (by omega)]; omega))
      refine ⟨r, hl, fun hq => ?_⟩
      refine Let.as (k : Int) (by rw [wi (by omega) (by omega)]; exact hk) (Let.as (k : Int) (wu (by omega) (by omega)) (Let.as ((k * 4503599627370496 : Nat) : Int) (by rw [wu (by omega) (by omega)]; omega) ?_))
      refine Let.as ((k * 4503599627370496 : Nat) : Int) ?_ (Call.mk (float64frombits_ev _) ⟨r, hr, hq⟩)
      have := or_ok (c := 0) (x := k * 4503599627370496) (s := 52) (by decide) (by omega) (by omega) hb
      rw [Nat.zero_add] at this
      exact this
    by_cases c1 : E < -1075
    · obtain ⟨n, hn, en⟩ := u64_nat .or (bits .andNot .u64 ((0 : Nat) : Int) (9223372036854775808 : Int)) (bits .and .u64 ((4607182418800017408 : Nat) : Int) (9223372036854775808 : Int))
      refine ⟨n, walk_math_ldexp (pre (Br.dT c1 (Call.mk (walk_math_Copysign ?_) rfl))), hn⟩
      unfold W_math_Copysign
      refine Call.mk (float64bits_ev _) (Let.it (Call.mk (float64bits_ev _) (Let.it (Let.as _ en (Call.mk (float64frombits_ev n) rfl)))))
    by_cases c2 : E > 1023
    · exact ⟨9218868437227405312, walk_math_ldexp (pre (Br.dF c1 (Br.dT c2 (Call.mk inf1_ev rfl)))), by decide⟩
    by_cases c3 : E < -1022
    · obtain ⟨r, hl, h⟩ := fin 4368491638549381120 (E + 53) (by decide) (by unfold isF; decide) (by omega) (by omega)
      refine ⟨r, walk_math_ldexp (pre (Br.dF c1 (Br.dF c2 ⟨fun x m => x = E + 53 ∧ m = 4368491638549381120, Br.dT c3 (Let.as _ (wi (by omega) (by omega)) ⟨rfl, rfl⟩), ?_⟩))), hl⟩
      rintro _ _ ⟨rfl, rfl⟩
      exact h rfl
    · obtain ⟨r, hl, h⟩ := fin 4607182418800017408 E (by decide) (by unfold isF; decide) (by omega) (by omega)
      refine ⟨r, walk_math_ldexp (pre (Br.dF c1 (Br.dF c2 ⟨fun x m => x = E ∧ m = 4607182418800017408, Br.dF c3 ⟨rfl, rfl⟩, ?_⟩))), hl⟩
      rintro _ _ ⟨rfl, rfl⟩
      exact h rfl
  obtain ⟨r, h1, h2⟩ := key
  exact ⟨r, walk_math_Ldexp (by unfold W_math_Ldexp; exact Call.mk h1 rfl), h2⟩
theorem any_math_Ldexp : AFn prog 12 [.v (.float .f64 4607182418800017408), .any anyI] (.any anyF) false :=
  AFn.anyArgI fun n _ => by
    obtain ⟨r, h1, h2⟩ := ldexp_some n
    exact AFn.anyRes h2 h1
end Go.Sim.YtlkpbnhinnhlfaaGreat
