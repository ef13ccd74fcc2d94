/- What is proved: math.Ldexp on what is exact; the last step of rounding; the rounding itself. -/
import Derived.Test.YtlkpbnhinnhlfaaGreatZLFPureK
import Derived.Test.YtlkpbnhinnhlfaaGreatZLFWE
import Derived.Laws.Closers25b

namespace Go.Sim.YtlkpbnhinnhlfaaGreat
open Go.RowKit Go.Proofs Go.Proofs.Tryz
set_option exponentiation.threshold 5000
theorem andNot_exp {e f : Nat} (he : e < 2048) (hf : f < 4503599627370496) : bits .andNot .u64 ((e * 4503599627370496 + f : Nat) : Int) 9218868437227405312 = (f : Int) := by
  unfold bits
  simp only []
  rw [show IntKind.u64.bits = 64 from rfl]
  generalize hx : e * 4503599627370496 + f = x
  have e1 : (BitVec.ofInt 64 (x : Int)) = BitVec.ofNat 64 x := by rw [BitVec.ofInt_natCast]
  have e2 : (BitVec.ofInt 64 (9218868437227405312 : Int)) = 9218868437227405312#64 := by decide
  rw [e1, e2]
  have e3 : ((BitVec.ofNat 64 x) &&& ~~~(9218868437227405312#64)).toNat = f := by
    rw [show ~~~(9218868437227405312#64) = 9227875636482146303#64 from by decide, BitVec.toNat_and, BitVec.toNat_ofNat, BitVec.toNat_ofNat, Nat.mod_eq_of_lt (by omega), show 9227875636482146303 % 2 ^ 64 = 2 ^ 63 * 1 + (2 ^ 52 - 1) by decide,
      Nat.two_pow_add_eq_or_of_lt (by decide), Nat.and_or_distrib_left, Nat.mul_one, Nat.and_two_pow_sub_one_eq_mod]
    have this : x.testBit 63 = false := Nat.testBit_lt_two_pow (by omega)
    have h0 : x &&& 2 ^ 63 = 0 := by
      apply Nat.eq_of_testBit_eq
      intro i
      rw [Nat.testBit_and, Nat.testBit_two_pow, Nat.zero_testBit]
      by_cases hi : 63 = i
      · subst hi; rw [this]; rfl
      · rw [decide_eq_false hi, Bool.and_false]
    rw [h0, Nat.zero_or]
    omega
  rw [e3, wu (by omega) (by omega)]
theorem negF {x : Nat} (h : x < 9223372036854775808) : Op.negFloat .f64 x = x + 9223372036854775808 := by
  show x ^^^ 2 ^ 63 = x + 9223372036854775808
  apply Nat.eq_of_testBit_eq
  intro i
  rw [Nat.testBit_xor, Nat.testBit_two_pow]
  rw [show x + 9223372036854775808 = 2 ^ 63 + x by omega]
  rcases Nat.lt_trichotomy i 63 with hi | hi | hi
  · rw [Nat.testBit_two_pow_add_gt hi]
    have : decide (63 = i) = false := by simp; omega
    rw [this]; simp
  · subst hi
    rw [Nat.testBit_two_pow_add_eq]
    simp
  · have h1 : x.testBit i = false := Nat.testBit_lt_two_pow (Nat.lt_of_lt_of_le (show x < 2 ^ 64 by omega) (Nat.pow_le_pow_right (by omega) (by omega)))
    have h2 : (2 ^ 63 + x).testBit i = false := Nat.testBit_lt_two_pow (Nat.lt_of_lt_of_le (show 2 ^ 63 + x < 2 ^ 64 by omega) (Nat.pow_le_pow_right (by omega) (by omega)))
    rw [h1, h2]
    have : decide (63 = i) = false := by simp; omega
    rw [this]; rfl
/-- The word of a rung of normal numbers, as it is read. -/
theorem read_norm {s q : Nat} (hq : 4503599627370496 ≤ q) (hq2 : q < 9007199254740992) (hs : s ≤ 2045) : Ieee.double.read (s * 4503599627370496 + q) = .number false q (-1074 + (s : Int)) := by
  have hr : rungB (s * 4503599627370496 + q) = s * 4503599627370496 + q := by unfold rungB; rw [if_pos (by omega)]
  have hn : negB (s * 4503599627370496 + q) = false := by unfold negB; rw [decide_eq_false]; omega
  rw [read_eq (by omega), hr, hn, if_neg (by omega), if_pos (by omega)]
  congr 1
  · omega
  · congr 1; omega
theorem ldexp_ev {sX qX k a b : Nat} {e : Int} (hq : 4503599627370496 ≤ qX) (hq2 : qX < 9007199254740992) (hs : sX ≤ 2045) (he : -5000 ≤ e ∧ e ≤ 5000) (hk : k < 9218868437227405312) (hk0 : k ≠ 0)
    (hv : fv k * 2 ^ a = qX * 2 ^ b) (hab : (b : Int) - a = sX + e) : Ev_math_ldexp (sX * 4503599627370496 + qX) e k := by
  have hX : sX * 4503599627370496 + qX < 9218868437227405312 := by omega
  generalize hXe : sX * 4503599627370496 + qX = X at hX
  have hXX : (sX + 1) * 4503599627370496 + (qX - 4503599627370496) = X := by
    rw [← hXe, Nat.add_mul, Nat.one_mul, Nat.add_assoc, Nat.add_sub_cancel' hq]
  have hrX : rungB X = X := by unfold rungB; rw [if_pos (by omega)]
  -- bounds of the exponent
  have hup : (sX : Int) + e < 2046 := by
    have h1 : fv k < 2 ^ 2098 := by
      have h2 := fv_lt hk
      have h3 : fv 9218868437227405312 = 2 ^ 2098 := by
        rw [show (9218868437227405312 : Nat) = 2046 * 4503599627370496 + 4503599627370496 by decide, fv_mk (by decide) (.inl (by decide)), show (4503599627370496 : Nat) = 2 ^ 52 by decide, ← Nat.pow_add]
      rw [← h3]; exact h2
    have h4 : 2 ^ (52 + b) < 2 ^ (2098 + a) := by
      rw [Nat.pow_add, Nat.pow_add]
      have h5 : 2 ^ 52 * 2 ^ b ≤ qX * 2 ^ b := Nat.mul_le_mul_right _ hq
      have h6 : fv k * 2 ^ a < 2 ^ 2098 * 2 ^ a := Nat.mul_lt_mul_of_pos_right h1 (Nat.two_pow_pos a)
      rw [hv] at h6
      exact Nat.lt_of_le_of_lt h5 h6
    have := (Nat.pow_lt_pow_iff_right (by omega : 1 < 2)).1 h4
    omega
  have hlo : -53 ≤ (sX : Int) + e := by
    have h1 : 0 < fv k := by have := fv_lt (r := 0) (t := k) (by omega); rwa [fv_zero] at this
    have h4 : 2 ^ a < 2 ^ (53 + b) := by
      rw [Nat.pow_add]
      have h5 : 2 ^ a ≤ fv k * 2 ^ a := Nat.le_mul_of_pos_left _ h1
      have h6 : qX * 2 ^ b < 2 ^ 53 * 2 ^ b := Nat.mul_lt_mul_of_pos_right (by omega) (Nat.two_pow_pos b)
      rw [← hv] at h6
      exact Nat.lt_of_le_of_lt h5 h6
    have := (Nat.pow_lt_pow_iff_right (by omega : 1 < 2)).1 h4
    omega
  have hnan : isN X := isN_rung.2 (by omega)
  refine walk_math_ldexp ?_
  unfold W_math_ldexp
  refine Br.f (by rw [eq_zero (by omega)]; simp; omega) (Call.mk (isInf0_ev (by omega)) (Br.dF (by omega) (Call.mk (isNaN_ev (by omega)) (Br.f (by simp [hnan]) ?_))))
  refine Call.mk (x := (X, (0 : Int))) ?_ ?_
  · refine walk_math_normalize ?_
    unfold W_math_normalize
    refine Call.mk (abs_ev (by omega)) (Br.f ?_ rfl)
    rw [fmt64, hrX, order_lt (by omega) (by decide), decide_eq_false_iff_not, fI_small (by omega), fI_small (by decide)]
    omega
  refine Let.as e (by rw [wi (by omega) (by omega)]; omega) (Call.mk (float64bits_ev X) ?_)
  have hdiv : X / 2 ^ 52 = sX + 1 := by simp only [Nat.reducePow]; omega
  refine Let.as ((sX + 1 : Nat) : Int) (by rw [shrC, hdiv]) (Let.as _ (wi (by omega) (by omega)) ?_)
  have hand : bits .and .i64 ((sX + 1 : Nat) : Int) 2047 = ((sX + 1 : Nat) : Int) := by
    have hk : ∀ n : Int, 0 ≤ n → n < 2 ^ 63 → IntKind.i64.wrap n = n := fun n h0 h1 => wi (by omega) (by simpa using h1)
    have := bits_mask .i64 63 (by simp [IntKind.bits]) hk 11 (by omega) ((sX + 1 : Nat) : Int) (by omega) (by simp; omega)
    rw [show ((2 : Int) ^ 11 - 1) = 2047 from rfl] at this
    rw [this]; omega
  refine Let.as _ hand (Let.as ((sX : Int) - 1022) (by rw [wi (by omega) (by omega)]; omega) (Let.as (e + sX - 1022) (by rw [wi (by omega) (by omega)]; omega) ?_))
  refine Br.dF (by omega) (Br.dF (by omega) ?_)
  -- what both ways have in common
  have fin : ∀ (m : Nat) (sM : Nat) (E : Int) (sY : Nat), m = sM * 4503599627370496 + 4503599627370496 → sM ≤ 2045 → E + 1023 = (sY : Int) + 1 → sY ≤ 2045 → (sM : Int) - 1074 + sY = sX + e - 52 →
      Let (bits .andNot .u64 (X : Int) (9218868437227405312 : Int)) fun x50 =>
      Let (IntKind.i64.wrap (E + (1023 : Int))) fun x51 =>
      Let (IntKind.u64.wrap x51) fun x52 =>
      Let (IntKind.u64.wrap (x52 * 2 ^ 52)) fun x53 =>
      Let (bits .or .u64 x50 x53) fun x54 =>
      Call (Ev_math_Float64frombits x54) fun x55 =>
      FOp .mul m x55 fun x57 => x57 = k := by
    intro m sM E sY hm hsM hE hsY hpl
    have hx50 := andNot_exp (e := sX + 1) (f := qX - 4503599627370496) (by omega) (by omega)
    rw [hXX] at hx50
    refine Let.as _ hx50 (Let.as ((sY + 1 : Nat) : Int) (by rw [wi (by omega) (by omega)]; omega) (Let.as _ (wu (by omega) (by omega)) (Let.as (((sY + 1) * 4503599627370496 : Nat) : Int) (by rw [wu (by omega) (by omega)]; omega) ?_)))
    refine Let.as _ (or_ok (s := 52) (by simp only [Nat.reducePow]; omega) (by simp only [Nat.reducePow]; omega) (by omega) (by omega)) ?_
    rw [show qX - 4503599627370496 + (sY + 1) * 4503599627370496 = sY * 4503599627370496 + qX by omega]
    refine Call.mk (float64frombits_ev _) ⟨k, ?_, rfl⟩
    show Ieee.double.mul m _ = some k
    unfold Ieee.Format.mul
    rw [hm, read_norm (by decide) (by decide) hsM, read_norm hq hq2 hsY]
    simp only [Ieee.Datum.product, Option.map_some, Ieee.Format.write]
    have := nearest_exact (neg := false) (mag := 4503599627370496 * qX) (place := (-1074 + (sM : Int)) + (-1074 + (sY : Int))) (r := k) (a := b) (b := a + 52) hk (Nat.mul_ne_zero (by omega) (by omega)) (by omega)
      (by rw [Nat.mul_assoc, ← hv, Nat.pow_add, show (4503599627370496 : Nat) = 2 ^ 52 by decide, Nat.mul_comm (2 ^ 52), Nat.mul_assoc])
    rw [if_neg (by decide), Nat.zero_add] at this
    rw [show (false ^^ false) = false from rfl, this]
  by_cases hsub : (sX : Int) + e < 0
  · refine ⟨fun E m => E = e + sX - 1022 + 53 ∧ m = 4368491638549381120, Br.dT (by omega) (Let.as _ (wi (by omega) (by omega)) ⟨rfl, rfl⟩), ?_⟩
    rintro _ _ ⟨rfl, rfl⟩
    exact fin _ 969 _ (e + sX + 53).toNat (by decide) (by decide) (by omega) (by omega) (by omega)
  · refine ⟨fun E m => E = e + sX - 1022 ∧ m = 4607182418800017408, Br.dF (by omega) ⟨rfl, rfl⟩, ?_⟩
    rintro _ _ ⟨rfl, rfl⟩
    exact fin _ 1022 _ (e + sX).toNat (by decide) (by decide) (by omega) (by omega) (by omega)
/-- A small whole number as a float. -/
theorem whole_float {q : Nat} (h0 : q ≠ 0) (h : q ≤ 9007199254740992) : ∃ s p, 4503599627370496 ≤ p ∧ p < 9007199254740992 ∧ s ≤ 1075 ∧ p * 2 ^ s = q * 2 ^ 1074 ∧ FloatKind.f64.nearest (q : Int) = s * 4503599627370496 + p := by
  have ex : ∃ s p, 4503599627370496 ≤ p ∧ p < 9007199254740992 ∧ s ≤ 1075 ∧ p * 2 ^ s = q * 2 ^ 1074 := by
    by_cases hb : q = 9007199254740992
    · refine ⟨1075, 4503599627370496, by decide, by decide, by decide, ?_⟩
      rw [hb, show (1075 : Nat) = 1 + 1074 by decide, Nat.pow_add, ← Nat.mul_assoc]
    · have hl : q.log2 ≤ 52 := by
        have : q.log2 < 53 := (Nat.log2_lt h0).2 (by omega)
        omega
      have h1 := Nat.log2_self_le h0
      have h2 := Nat.lt_log2_self (n := q)
      have hp : 2 ^ q.log2 * 2 ^ (52 - q.log2) = 4503599627370496 := by rw [← Nat.pow_add, show q.log2 + (52 - q.log2) = 52 by omega]
      have hp2 : 2 ^ (q.log2 + 1) * 2 ^ (52 - q.log2) = 9007199254740992 := by rw [← Nat.pow_add, show q.log2 + 1 + (52 - q.log2) = 53 by omega]
      refine ⟨1022 + q.log2, q * 2 ^ (52 - q.log2), ?_, ?_, by omega, ?_⟩
      · rw [← hp]; exact Nat.mul_le_mul_right _ h1
      · rw [← hp2]; exact Nat.mul_lt_mul_of_pos_right h2 (Nat.two_pow_pos _)
      · rw [Nat.mul_assoc, ← Nat.pow_add]; congr 2; omega
  obtain ⟨s, p, a1, a2, a3, a4⟩ := ex
  refine ⟨s, p, a1, a2, a3, a4, ?_⟩
  unfold FloatKind.nearest FloatKind.encode
  rw [decide_eq_false (by omega), Int.natAbs_natCast]
  show Ieee.double.nearest false q 0 = _
  have := nearest_exact (neg := false) (mag := q) (place := 0) (r := s * 4503599627370496 + p) (a := 1074) (b := 0) (by omega) h0 (by omega) (by rw [fv_mk (by omega) (.inl a1), a4, Nat.pow_zero, Nat.mul_one])
  rw [if_neg (by decide), Nat.zero_add] at this
  exact this
/-- A rung, made a float; or it is too great. -/
theorem made_ev' (v : Gulpvalue) {q : Nat} {e dir : Int} (hq : q ≤ 9007199254740992) (he : -1074 ≤ e ∧ e ≤ 20000) (hc : 4503599627370496 ≤ q ∨ e = -1074) :
    Ev_ulp_value_made v (q : Int) e dir (capR v.neg_ ((e + 1074).toNat * 4503599627370496 + q) dir) := by
  refine walk_ulp_value_made ?_
  unfold W_ulp_value_made
  refine Br.e (fun h0 => ?_) (fun h0 => ?_)
  · have e0 : e = -1074 := hc.resolve_left (by omega)
    subst e0
    have : q = 0 := by omega
    subst this
    rfl
  · have hb := (blen_le q 54).2 (by simp only [Nat.reducePow]; omega)
    refine Call.mk (len64_ev q (by omega)) (Let.as ((blen q : Nat) + e) (wi (by omega) (by omega)) ?_)
    generalize hk : (e + 1074).toNat * 4503599627370496 + q = k
    have hk0 : k ≠ 0 := by omega
    have fits : (blen q : Int) + e ≤ 1024 ↔ k < 9218868437227405312 := by
      have b1 := blen_le q 53
      have b2 := blen_le q 52
      simp only [Nat.reducePow] at b1 b2
      by_cases c1 : q < 9007199254740992 <;> by_cases c2 : q < 4503599627370496 <;> omega
    refine ⟨fun x => x = if 9218868437227405312 ≤ k then (if 0 ≤ dir then 9218868437227405312 else 9218868437227405311) else k, ?_, fun x hx => ?_⟩
    · refine Br.d (fun h => ?_) (fun h => Br.d (fun h2 => Call.mk inf1_ev ?_) (fun h2 => ?_))
      · obtain ⟨s, p, a1, a2, a3, a4, a5⟩ := whole_float (q := q) (by omega) hq
        have hfk : fv k = q * 2 ^ (e + 1074).toNat := by rw [← hk]; exact fv_mk hq (hc.imp id (fun h => by omega))
        refine Let.as _ a5 (Call.mk (x := k) (walk_math_Ldexp ?_) ?_)
        · unfold W_math_Ldexp
          refine Call.mk (ldexp_ev a1 a2 (by omega) (by omega) (fits.1 h) hk0 (a := 1074) (b := s + (e + 1074).toNat) ?_ (by omega)) rfl
          rw [hfk, Nat.pow_add, ← Nat.mul_assoc, a4, Nat.mul_right_comm]
        · rw [if_neg (by have := fits.1 h; omega)]
      · rw [if_pos (by have := fits; omega), if_pos (by omega)]
      · rw [if_pos (by have := fits; omega), if_neg (by omega)]
    · subst hx
      unfold capR
      rw [if_neg hk0]
      have hlt : (if 9218868437227405312 ≤ k then (if 0 ≤ dir then 9218868437227405312 else 9218868437227405311) else k) < 9223372036854775808 := by split <;> (try split) <;> omega
      generalize (if 9218868437227405312 ≤ k then (if 0 ≤ dir then 9218868437227405312 else 9218868437227405311) else k) = x at hlt
      cases hn : v.neg_ with
      | true => exact Br.t rfl (Let.as _ (negF hlt) (by rw [if_pos rfl]; omega))
      | false => exact Br.f rfl (by rw [if_neg (by decide)]; omega)
end Go.Sim.YtlkpbnhinnhlfaaGreat

/- What is proved: functions of the program compute what plain statements tell. -/
namespace Go.Sim.YtlkpbnhinnhlfaaGreat
open Go.RowKit Go.Proofs Go.Proofs.Tryz
set_option maxRecDepth 100000
def W_ival_Sub (x1 : GIval) (y2 : GIval) (Q : GIval → Prop) : Prop :=
 Call (Ev_ival_Neg y2) fun x3 =>
 Call (Ev_ival_Add x1 x3) fun x5 =>
 Q x5
theorem walk_ival_Sub {x1 : GIval} {y2 : GIval} {r : GIval} (h : W_ival_Sub x1 y2 (fun r' => r' = r)) : Ev_ival_Sub x1 y2 r := by
  unfold W_ival_Sub at h
  refine intr (L := [(0, .dat (GIval.enc x1)), (1, .dat (GIval.enc y2))]) Tryz.func78 Tryz.ntmps78 ?_
  refine sN (bx (v := .dat (.st _ _)) ?_)
  refine bx (v := .dat (.st _ _)) ?_
  refine al0 ?_
  refine dn (AWp.seq (rE [(2, [2]), (3, [3]), (4, [4])] (pT rfl (pT rfl (kC h rfl ⟨.inl rfl, trivial⟩ rfl fun x3 h => ?_)))))
  refine kC h rfl ⟨.inl rfl, .inl rfl, trivial⟩ rfl fun x5 h => st (v := .dat (.st _ _)) ?_
  subst h; exact dn (AWp.ret ⟨_, rfl, rfl⟩)
def W_ival_Neg (x1 : GIval) (Q : GIval → Prop) : Prop :=
 Call (Ev_ival_none ([x1])) fun x2 =>
 Br x2 (
  Call (Ev_ival_Empty) fun x6 =>
  Q x6) (
  Let (Op.negFloat .f64 x1.Hi) fun x8 =>
  Let (Op.negFloat .f64 x1.Lo) fun x9 =>
  Call (Ev_ival_Make x8 x9) fun x10 =>
  Q x10)
theorem walk_ival_Neg {x1 : GIval} {r : GIval} (h : W_ival_Neg x1 (fun r' => r' = r)) : Ev_ival_Neg x1 r := by
  unfold W_ival_Neg at h
  refine intr (L := [(0, .dat (GIval.enc x1))]) Tryz.func109 Tryz.ntmps109 ?_
  refine sN (bx (v := .dat (.st _ _)) ?_)
  refine al0 ?_
  refine dn (AWp.seq (AWp.seq (rN (pT rfl ?_))))
  refine AOps.lit tabOk (ys := [GIval.enc x1]) rfl rfl rfl rfl rfl rfl ?_
  refine kC h rfl ⟨.inl rfl, trivial⟩ rfl fun x2 h => dn ?_
  refine cB h (fun h => ?_) (fun h => ?_)
  · refine sW (kC h rfl trivial rfl fun x6 h => ?_)
    refine st (v := .dat (.st _ _)) ?_
    subst h; exact dn (AWp.ret ⟨_, rfl, rfl⟩)
  refine AWp.skip (AWp.seq (rW (pP rfl (pF rfl ?_))))
  obtain ⟨x8, ex8, h⟩ := h.get
  refine AOps.fl tabOk rfl rfl rfl ex8 ?_
  refine pP rfl (pF rfl ?_)
  obtain ⟨x9, ex9, h⟩ := h.get
  refine AOps.fl tabOk rfl rfl rfl ex9 ?_
  refine kC h rfl ⟨.inl rfl, .inl rfl, trivial⟩ rfl fun x10 h => st (v := .dat (.st _ _)) ?_
  subst h; exact dn (AWp.ret ⟨_, rfl, rfl⟩)
end Go.Sim.YtlkpbnhinnhlfaaGreat

/- What is proved: math.Abs, Frexp and Ldexp yield floats, whatever they are given. -/
namespace Go.Sim.YtlkpbnhinnhlfaaGreat
open Go.RowKit Go.Proofs Go.Proofs.Tryz
end Go.Sim.YtlkpbnhinnhlfaaGreat

/- What is proved: math.Hypot and IsInf yield something, whatever they are given. -/
namespace Go.Sim.YtlkpbnhinnhlfaaGreat
open Go.RowKit Go.Proofs Go.Proofs.Tryz
theorem any_math_IsInf : AFn prog 54 [.any anyF, .v (.int .i64 0)] (.any anyB) false :=
  AFn.anyArg fun b hb => by
    have h := isInf0_ev hb
    exact ⟨h.1, fun F w vs hg hv => (h.2 F w vs hg hv).mono fun _ _ ⟨v, h1, h2, h3⟩ => ⟨v, h1, h2, by
      simp only [RepV, RepD, List.cons.injEq, and_true] at h3 ⊢
      exact ⟨v, rfl, by rw [h3.1]; rfl, _, h3.1⟩⟩⟩
/-- It yields something that has a property. -/
def SomeP {α : Type} (m : Sem α) (p : α → Prop) : Prop := ∀ w, ∃ r w', m.run prog w = .ok r w' ∧ Drews w w' ∧ p r
theorem SomeP.pure {α : Type} {x : α} {p : α → Prop} (h : p x) : SomeP (pure x) p := fun w => ⟨x, w, by rw [Sem.run_pure], .refl w, h⟩
theorem SomeP.bind {α β : Type} {m : Sem α} {f : α → Sem β} {p : α → Prop} {q : β → Prop} (h : SomeP m p) (k : ∀ x, p x → SomeP (f x) q) : SomeP (m >>= f) q := fun w => by
  obtain ⟨r, w1, h1, h2, h3⟩ := h w
  obtain ⟨s, w2, k1, k2, k3⟩ := k r h3 w1
  exact ⟨s, w2, by rw [Sem.run_bind, h1, Result.andThen_ok, k1], h2.trans k2, k3⟩
theorem SomeP.ite {α : Type} {c : Prop} [Decidable c] {x y : Sem α} {p : α → Prop} (hx : SomeP x p) (hy : SomeP y p) : SomeP (if c then x else y) p := by
  split
  · exact hx
  · exact hy
def w64 (r : Nat) : Prop := r < 18446744073709551616
theorem arith_some {op : BinOp} (hop : op = .add ∨ op = .sub ∨ op = .mul ∨ op = .quo) (a b : Nat) : SomeP (Extern.MathAsm.arith op a b) w64 := fun w => by
  obtain ⟨u, w', h1, h2, r, hr, rfl⟩ := arith_any (P := prog) op hop a b w
  exact ⟨r, w', by simp only [Extern.MathAsm.arith, Sem.run_bind, h1, Result.andThen_ok, Sem.run_pure], .one h2, hr⟩
theorem sqrt_any (x : Nat) (hs : ∀ z, FloatKind.f64.format.sqrt x = some z → z < 18446744073709551616) : SomeP (Extern.MathSqrt.sqrt #[.float .f64 x]) anyF := fun w => by
  obtain ⟨u, w', h1, h2, h3⟩ := opt_any (P := prog) (FloatKind.f64.format.sqrt x) hs (.nanBits .f64 x x) (.inl ⟨_, _, rfl⟩) w
  exact ⟨u, w', h1, .one h2, h3⟩
theorem hypot_some (a b : Nat) : SomeP (Extern.MathHypot.archHypot #[.float .f64 a, .float .f64 b]) anyF := by
  refine SomeP.ite ?_ (SomeP.ite ?_ (SomeP.ite ?_ ?_))
  · exact .pure ⟨_, by decide, rfl⟩
  · exact .pure ⟨_, by decide, rfl⟩
  · exact .pure ⟨_, by decide, rfl⟩
  · generalize (if Extern.MathAsm.lt (a % 2 ^ 63) (b % 2 ^ 63) = true then (b % 2 ^ 63, a % 2 ^ 63) else (a % 2 ^ 63, b % 2 ^ 63)) = z
    obtain ⟨big, small⟩ := z
    refine SomeP.bind (arith_some (.inr (.inr (.inr rfl))) _ _) fun r hr => SomeP.bind (arith_some (.inr (.inr (.inl rfl))) _ _) fun r2 _ => SomeP.bind (arith_some (.inl rfl) _ _) fun r3 _ => SomeP.bind (sqrt_any r3 fun z h => map_write_lt h) fun v hv => ?_
    obtain ⟨s, hs, rfl⟩ := hv
    exact SomeP.bind (arith_some (.inr (.inr (.inl rfl))) _ _) fun r4 h4 => .pure ⟨r4, h4, rfl⟩
theorem hypot_ext : ExtAny prog 93 := fun a b _ _ w => by
  rw [run_callFunc_extern Tryz.func93 (by kernel_rfl) (by kernel_rfl) (by kernel_rfl) (e := Extern.MathHypot.archHypot) (by kernel_rfl)]
  obtain ⟨u, w', h1, h2, h3⟩ := hypot_some a b w
  exact ⟨u, w', by rw [h1, Result.andThen_ok], h2, h3⟩
theorem any_math_Hypot : AFn prog 55 [.any anyF, .any anyF] (.any anyF) false := by
  refine intr (L := [(0, .dat (.any anyF)), (1, .dat (.any anyF))]) Tryz.func55 Tryz.ntmps55 ?_
  refine sN ?_
  refine AOps.v rfl rfl (Step.mvU (.inr rfl) (fU_c rfl)) ?_
  refine dn (AWp.seq ?_)
  refine AWp.condT rfl ?_
  refine sN (pW rfl (pW rfl ?_))
  refine AOps.v rfl rfl (Step.extAny hypot_ext rfl fU_any fU_any) ?_
  refine pW rfl (dn (AWp.ret ?_))
  exact ⟨_, rfl, rfl⟩
end Go.Sim.YtlkpbnhinnhlfaaGreat

/- What is proved: functions of the program compute what plain statements tell. -/
namespace Go.Sim.YtlkpbnhinnhlfaaGreat
open Go.RowKit Go.Proofs Go.Proofs.Tryz
set_option maxRecDepth 100000
end Go.Sim.YtlkpbnhinnhlfaaGreat
