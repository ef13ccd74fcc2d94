/- What is proved: what the functions of package math, and the taking apart of floats, compute. -/
import Derived.Test.YtlglkgineclggaaZGWF1
import Derived.Test.YtlglkgineclggaaZGExtF
import Derived.Test.YtlglkgineclggaaZGExtB
import Derived.Test.YtlglkgineclggaaZGDivX
import Derived.Test.YtlglkgineclggaaZGFltR
import Derived.Test.YtlglkgineclggaaZGPureK
namespace Go.Sim.Ytlglkgineclggaa
open Go.RowKit Go.Proofs Go.Proofs.Try
theorem okF {b : Nat} : okFlt b ↔ b < 18446744073709551616 := by
  unfold okFlt
  simp [Lit.wf]
theorem fmt64 : FloatKind.f64.format = Ieee.double := rfl
/-- Bits taken away. -/
theorem andNot_top {b : Nat} (h : b < 18446744073709551616) : bits .andNot .u64 (b : Int) 9223372036854775808 = ((rungB b : Nat) : Int) := by
  unfold bits
  simp only []
  rw [show IntKind.u64.bits = 64 from rfl]
  have e1 : (BitVec.ofInt 64 (b : Int)) = BitVec.ofNat 64 b := by rw [BitVec.ofInt_natCast]
  have e2 : (BitVec.ofInt 64 (9223372036854775808 : Int)) = 9223372036854775808#64 := by decide
  rw [e1, e2]
  have e3 : ((BitVec.ofNat 64 b) &&& ~~~(9223372036854775808#64)).toNat = b % 2 ^ 63 := by
    rw [show ~~~(9223372036854775808#64) = 9223372036854775807#64 from by decide, BitVec.toNat_and, BitVec.toNat_ofNat, BitVec.toNat_ofNat, Nat.mod_eq_of_lt (by omega), show 9223372036854775807 % 2 ^ 64 = 2 ^ 63 - 1 by decide, Nat.and_two_pow_sub_one_eq_mod]
  rw [e3, wu (by omega) (by omega)]
  unfold rungB
  split <;> omega
theorem abs_ev {b : Nat} (h : b < 18446744073709551616) : Ev_math_Abs b (rungB b) := by
  refine walk_math_Abs ?_
  unfold W_math_Abs
  exact Call.mk (float64bits_ev b) (Let.as _ (andNot_top h) (Call.mk (float64frombits_ev _) rfl))
theorem isNaN_ev {b : Nat} (h : b < 18446744073709551616) : Ev_math_IsNaN b (!decide (isN b)) := by
  refine walk_math_IsNaN ?_
  unfold W_math_IsNaN
  simp only [fmt64, bne, order_eqv h h]
  congr 1
  simp
theorem fI_small {r : Nat} (h : r < 9223372036854775808) : fI r = r := by unfold fI; rw [if_pos h]
theorem rung_lt {b : Nat} (h : b < 18446744073709551616) : rungB b < 9223372036854775808 := by unfold rungB; split <;> omega
theorem isInf0_ev {b : Nat} (h : b < 18446744073709551616) : Ev_math_IsInf b 0 (decide (rungB b = 9218868437227405312)) := by
  refine walk_math_IsInf ?_
  unfold W_math_IsInf
  have hr := rung_lt h
  refine Br.eT rfl (Call.mk (abs_ev h) ?_)
  show _ = _
  simp only [fmt64, order_gt (show rungB b < 18446744073709551616 by omega) (show 9218868437227405311 < 18446744073709551616 by decide)]
  rw [decide_eq_decide]
  unfold isN
  rw [fI_small hr, fI_small (show 9218868437227405311 < 9223372036854775808 by decide)]
  omega
theorem inf1_ev : Ev_math_Inf 1 9218868437227405312 := by
  refine walk_math_Inf ?_
  unfold W_math_Inf
  exact ⟨fun x => x = 9218868437227405312, Br.dT (by decide) rfl, fun x hx => by subst hx; exact Call.mk (float64frombits_ev 9218868437227405312) rfl⟩
theorem infm_ev : Ev_math_Inf (-1) 18442240474082181120 := by
  refine walk_math_Inf ?_
  unfold W_math_Inf
  exact ⟨fun x => x = 18442240474082181120, Br.dF (by decide) rfl, fun x hx => by subst hx; exact Call.mk (float64frombits_ev 18442240474082181120) rfl⟩
theorem nan_ev : Ev_math_NaN 9221120237041090561 := by
  refine walk_math_NaN ?_
  unfold W_math_NaN
  exact Call.mk (float64frombits_ev 9221120237041090561) rfl
/-! ### Floats taken apart -/
def sP (b : Nat) : Nat := rungB b / 4503599627370496 - 1
def qP (b : Nat) : Nat := rungB b - sP b * 4503599627370496
theorem fv_qs (b : Nat) : fv (rungB b) = qP b * 2 ^ sP b := by
  obtain ⟨s, q, h1, h2, h3, h4⟩ := rung_split (rungB b)
  have e1 : sP b = s := h4.symm
  have e2 : qP b = q := by unfold qP; rw [e1, h1]; omega
  rw [e1, e2, h1]; exact fv_mk (by omega) h3
theorem qP_lt (b : Nat) : qP b < 9007199254740992 := by unfold qP sP; omega
theorem qP_ge (b : Nat) : 4503599627370496 ≤ qP b ∨ sP b = 0 := by unfold qP sP; omega
/-- What a finite float is taken apart to. -/
def partsB (b : Nat) : GParts := if rungB b = 0 then GParts.zero else ⟨negB b, (qP b : Int), (sP b : Int) - 1074⟩
theorem isF_rung {b : Nat} : isF b ↔ rungB b < 9218868437227405312 := by
  have := rung_abs b
  unfold isF; omega
theorem isN_rung {b : Nat} : isN b ↔ rungB b ≤ 9218868437227405312 := by
  have := rung_abs b
  unfold isN; omega
theorem lt_zero {b : Nat} (hb : b < 18446744073709551616) : (FloatKind.f64.format.order b 0 == some .lt) = decide (isN b ∧ fI b < 0) := by
  rw [fmt64, order_lt hb (by decide), decide_eq_decide]
  have e : fI 0 = 0 := rfl
  have : isN 0 := by decide
  rw [e]
  exact ⟨fun h => ⟨h.1, h.2.2⟩, fun h => ⟨h.1, this, h.2⟩⟩
theorem eq_zero {b : Nat} (hb : b < 18446744073709551616) : (FloatKind.f64.format.order b 0 == some .eq) = decide (rungB b = 0) := by
  have e : fI 0 = 0 := rfl
  have h0 : isN 0 := by decide
  have hr := rung_abs b
  rw [fmt64, order_eqv hb (by decide), decide_eq_decide, e, isN_rung]
  exact ⟨fun h => by omega, fun h => ⟨by omega, h0, by omega⟩⟩
theorem split_ev {b : Nat} (hb : b < 18446744073709551616) : Ev_ulp_Split b (if isF b then (partsB b, true) else (GParts.zero, false)) := by
  refine walk_ulp_Split ?_
  unfold W_ulp_Split
  have hr := rung_lt hb
  by_cases hn : isN b
  · refine Call.mk (isNaN_ev hb) (Br.f (by simp [hn]) (Call.mk (isInf0_ev hb) ?_))
    by_cases hf : isF b
    · have hr2 := isF_rung.1 hf
      rw [if_pos hf]
      refine Br.dF (by omega) (Call.mk (float64bits_ev b) ?_)
      refine Let.as ((b % 4503599627370496 * 4096 : Nat) : Int) (by rw [show (b : Int) * 2 ^ 12 = ((b * 4096 : Nat) : Int) by omega, wuN]; omega) ?_
      refine Let.as ((b % 4503599627370496 : Nat) : Int) (by rw [shrC]; congr 1; omega) ?_
      refine Let.as ((b % 9223372036854775808 * 2 : Nat) : Int) (by rw [show (b : Int) * 2 ^ 1 = ((b * 2 : Nat) : Int) by omega, wuN]; omega) ?_
      refine Let.as ((b % 9223372036854775808 / 4503599627370496 : Nat) : Int) (by rw [shrC]; congr 1; omega) ?_
      refine Let.as ((b % 9223372036854775808 / 4503599627370496 : Nat) : Int) (wi (by omega) (by omega)) ?_
      have hm : b % 9223372036854775808 = rungB b := by unfold rungB; split <;> omega
      have hm2 : b % 4503599627370496 = rungB b % 4503599627370496 := by omega
      rw [hm, hm2]
      by_cases h0 : rungB b = 0
      · refine ⟨fun _ _ => False, ⟨fun x => x = true, Br.eT (by rw [h0]; rfl) (by rw [h0]; rfl), fun x hx => ?_⟩, fun _ _ h => h.elim⟩
        subst hx
        refine Br.t rfl ?_
        unfold partsB
        rw [if_pos h0]
      · refine ⟨fun m e => m = (qP b : Int) ∧ e = (sP b : Int) + 1, ⟨fun x => x = false, ?_, fun x hx => ?_⟩, fun m e h => ?_⟩
        · by_cases h1 : rungB b % 4503599627370496 = 0
          · exact Br.eT (by omega) (by simp; omega)
          · exact Br.eF (by omega) rfl
        · subst hx
          refine Br.f rfl ?_
          by_cases h1 : rungB b / 4503599627370496 = 0
          · exact Br.eT (by omega) ⟨by unfold qP sP; omega, by unfold sP; omega⟩
          · refine Br.eF (by omega) (Let.as _ (or_ok (s := 52) (x := 4503599627370496) (by simp only [Nat.reducePow]; omega) (by decide) (by decide) (by decide)) ⟨by unfold qP sP; omega, by unfold sP; omega⟩)
        · obtain ⟨rfl, rfl⟩ := h
          have hs : sP b < 2048 := by unfold sP; omega
          refine Let.as ((sP b : Int) - 1073) (by rw [wi (by omega) (by omega)]; omega) (Let.as ((sP b : Int) - 1074) (by rw [wi (by omega) (by omega)]; omega) ?_)
          unfold partsB
          rw [if_neg h0, lt_zero hb]
          have : decide (isN b ∧ fI b < 0) = negB b := by
            have e := fI_eq b
            cases hn' : negB b with
            | true => rw [hn', if_pos rfl] at e; simp; exact ⟨hn, by omega⟩
            | false => rw [hn', if_neg (by decide)] at e; simp; intro _; omega
          rw [this]
    · have hr2 : ¬ rungB b < 9218868437227405312 := fun h => hf (isF_rung.2 h)
      have hr3 := isN_rung.1 hn
      rw [if_neg hf]
      exact Br.dT (by omega) rfl
  · have hf : ¬ isF b := fun h => hn h.n
    rw [if_neg hf]
    exact Call.mk (isNaN_ev hb) (Br.t (by simp [hn]) rfl)
theorem both_ev {a b : Nat} (ha : a < 18446744073709551616) (hb : b < 18446744073709551616) :
    Ev_ulp_both a b ((if isF a then partsB a else GParts.zero), (if isF b then partsB b else GParts.zero), decide (isF a ∧ isF b)) := by
  refine walk_ulp_both ?_
  unfold W_ulp_both
  refine Call.mk (split_ev ha) (Call.mk (split_ev hb) ?_)
  by_cases h1 : isF a
  · by_cases h2 : isF b
    · exact Br.t (by simp [h1]) (by simp [h1, h2])
    · exact Br.t (by simp [h1]) (by simp [h1, h2])
  · refine Br.f (by simp [h1]) ?_
    by_cases h2 : isF b <;> simp [h1, h2]
end Go.Sim.Ytlglkgineclggaa
