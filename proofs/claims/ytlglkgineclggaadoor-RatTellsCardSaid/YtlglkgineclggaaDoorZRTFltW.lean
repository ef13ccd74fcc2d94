/- What is proved: what the functions of package math, and the taking apart of floats, compute. -/
import Derived.Test.YtlglkgineclggaaDoorZRTWF1
import Derived.Test.YtlglkgineclggaaDoorZRTExtF
import Derived.Test.YtlglkgineclggaaDoorZRTExtB
import Derived.Test.YtlglkgineclggaaDoorZRTDivX
import Derived.Test.YtlglkgineclggaaDoorZRTFltR
import Derived.Test.YtlglkgineclggaaDoorZRTPureK
namespace Go.Sim.YtlglkgineclggaaDoor
open Go.RowKit Go.Proofs Go.Proofs.Tryd
theorem fmt64 : FloatKind.f64.format = Ieee.double := rfl
/-- Bits taken away. -/
theorem andNot_top {b : Nat} (h : b < 18446744073709551616) : bits .andNot .u64 (b : Int) 9223372036854775808 = ((rungB b : Nat) : Int) := by
  unfold bits
  simp only []
  rw [show IntKind.u64.bits = 64 from rfl]
  have e1 : (BitVec.ofInt 64 (b : Int)) = BitVec.ofNat 64 b := by rw [BitVec.ofInt_natCast]
  have e2 : (BitVec.ofInt 64 (9223372036854775808 : Int)) = 9223372036854775808#64 := by decide
  rw [e1, e2]
  have e3 : ((BitVec.ofNat 64 b) &&& ~~~(9223372036854775808#64)).toNat = b % 2 ^ 63 := by
    rw [show ~~~(9223372036854775808#64) = 9223372036854775807#64 from by decide, BitVec.toNat_and, BitVec.toNat_ofNat, BitVec.toNat_ofNat, Nat.mod_eq_of_lt (by omega), show 9223372036854775807 % 2 ^ 64 = 2 ^ 63 - 1 by decide, Nat.and_two_pow_sub_one_eq_mod]
  rw [e3, wu (by omega) (by omega)]
  unfold rungB
  split <;> omega
theorem abs_ev {b : Nat} (h : b < 18446744073709551616) : Ev_math_Abs b (rungB b) := by
  refine walk_math_Abs ?_
  unfold W_math_Abs
  exact Call.mk (float64bits_ev b) (Let.as _ (andNot_top h) (Call.mk (float64frombits_ev _) rfl))
theorem isNaN_ev {b : Nat} (h : b < 18446744073709551616) : Ev_math_IsNaN b (!decide (isN b)) := by
  refine walk_math_IsNaN ?_
  unfold W_math_IsNaN
  simp only [fmt64, bne, order_eqv h h]
  congr 1
  simp
theorem fI_small {r : Nat} (h : r < 9223372036854775808) : fI r = r := by unfold fI; rw [if_pos h]
theorem rung_lt {b : Nat} (h : b < 18446744073709551616) : rungB b < 9223372036854775808 := by unfold rungB; split <;> omega
theorem isInf0_ev {b : Nat} (h : b < 18446744073709551616) : Ev_math_IsInf b 0 (decide (rungB b = 9218868437227405312)) := by
  refine walk_math_IsInf ?_
  unfold W_math_IsInf
  have hr := rung_lt h
  refine Br.eT rfl (Call.mk (abs_ev h) ?_)
  show _ = _
  simp only [fmt64, order_gt (show rungB b < 18446744073709551616 by omega) (show 9218868437227405311 < 18446744073709551616 by decide)]
  rw [decide_eq_decide]
  unfold isN
  rw [fI_small hr, fI_small (show 9218868437227405311 < 9223372036854775808 by decide)]
  omega
theorem inf1_ev : Ev_math_Inf 1 9218868437227405312 := by
  refine walk_math_Inf ?_
  unfold W_math_Inf
  exact ⟨fun x => x = 9218868437227405312, Br.dT (by decide) rfl, fun x hx => by subst hx; exact Call.mk (float64frombits_ev 9218868437227405312) rfl⟩
theorem infm_ev : Ev_math_Inf (-1) 18442240474082181120 := by
  refine walk_math_Inf ?_
  unfold W_math_Inf
  exact ⟨fun x => x = 18442240474082181120, Br.dF (by decide) rfl, fun x hx => by subst hx; exact Call.mk (float64frombits_ev 18442240474082181120) rfl⟩
/-! ### Floats taken apart -/
def sP (b : Nat) : Nat := rungB b / 4503599627370496 - 1
def qP (b : Nat) : Nat := rungB b - sP b * 4503599627370496
theorem fv_qs (b : Nat) : fv (rungB b) = qP b * 2 ^ sP b := by
  obtain ⟨s, q, h1, h2, h3, h4⟩ := rung_split (rungB b)
  have e1 : sP b = s := h4.symm
  have e2 : qP b = q := by unfold qP; rw [e1, h1]; omega
  rw [e1, e2, h1]; exact fv_mk (by omega) h3
theorem qP_lt (b : Nat) : qP b < 9007199254740992 := by unfold qP sP; omega
theorem qP_ge (b : Nat) : 4503599627370496 ≤ qP b ∨ sP b = 0 := by unfold qP sP; omega
/-- What a finite float is taken apart to. -/
def partsB (b : Nat) : GParts := if rungB b = 0 then GParts.zero else ⟨negB b, (qP b : Int), (sP b : Int) - 1074⟩
theorem isF_rung {b : Nat} : isF b ↔ rungB b < 9218868437227405312 := by
  have := rung_abs b
  unfold isF; omega
theorem isN_rung {b : Nat} : isN b ↔ rungB b ≤ 9218868437227405312 := by
  have := rung_abs b
  unfold isN; omega
theorem eq_zero {b : Nat} (hb : b < 18446744073709551616) : (FloatKind.f64.format.order b 0 == some .eq) = decide (rungB b = 0) := by
  have e : fI 0 = 0 := rfl
  have h0 : isN 0 := by decide
  have hr := rung_abs b
  rw [fmt64, order_eqv hb (by decide), decide_eq_decide, e, isN_rung]
  exact ⟨fun h => by omega, fun h => ⟨by omega, h0, by omega⟩⟩
end Go.Sim.YtlglkgineclggaaDoor
