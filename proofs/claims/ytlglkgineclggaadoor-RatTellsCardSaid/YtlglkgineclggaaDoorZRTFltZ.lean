/- What is proved: the reference's places of floats, and floats taken apart. -/
import Derived.Test.YtlglkgineclggaaDoorZRTWF5
import Derived.Test.YtlglkgineclggaaDoorZRTBigZ
import Derived.Test.YtlglkgineclggaaDoorZRTFltN
namespace Go.Sim.YtlglkgineclggaaDoor
open Go.RowKit Go.Proofs Go.Proofs.Tryd
theorem at_ev {i : Int} (h1 : -9223372036854775807 ≤ i) (h2 : i ≤ 9223372036854775807) : Ev_ref01_At i (atI i) := by
  refine walk_ref01_At ?_
  unfold W_ref01_At
  unfold atI
  refine Br.d (fun h => ?_) (fun h => ?_)
  · rw [if_pos h]
    refine Let.as (-i) (by rw [wi (by omega) (by omega)]; omega) (Let.as ((i.natAbs : Nat) : Int) (by rw [wuM]; omega) (Let.as ((i.natAbs + 9223372036854775808 : Nat) : Int) (by rw [wuM]; omega) (Call.mk (float64frombits_ev _) rfl)))
  · rw [if_neg h]
    exact Let.as ((i.toNat : Nat) : Int) (by rw [wuM]; omega) (Call.mk (float64frombits_ev _) rfl)
theorem index_ev {b : Nat} (hb : b < 18446744073709551616) : Ev_ref01_Index b (fI b) := by
  refine walk_ref01_Index ?_
  unfold W_ref01_Index
  unfold fI
  refine Call.mk (float64bits_ev b) (Let.as ((b / 9223372036854775808 : Nat) : Int) (shrC b 63) (Br.e (fun h => ?_) (fun h => ?_)))
  · rw [if_neg (by omega)]
    refine Let.as ((b - 9223372036854775808 : Nat) : Int) (by rw [wuM]; omega) (Let.as _ (wi (by omega) (by omega)) (Let.as (-((b - 9223372036854775808 : Nat) : Int)) (by rw [wi (by omega) (by omega)]; omega) rfl))
  · rw [if_pos (by omega)]
    exact Let.as _ (wi (by omega) (by omega)) rfl
theorem isnum_ev {b : Nat} (hb : b < 18446744073709551616) : Ev_ref01_IsNum b (decide (isN b)) := by
  refine walk_ref01_IsNum ?_
  unfold W_ref01_IsNum
  have e : fI 0 = 0 := rfl
  have z : isN 0 := by decide
  rw [fmt64, order_lt hb (by decide), order_eqv hb (by decide), order_gt hb (by decide), e]
  refine ⟨fun h => ?_, fun h => ?_⟩
  · rw [Bool.or_eq_true, decide_eq_true_iff, decide_eq_true_iff] at h
    symm; rw [decide_eq_true_iff]
    rcases h with h | h <;> exact h.1
  · rw [Bool.or_eq_false_iff, decide_eq_false_iff_not, decide_eq_false_iff_not] at h
    rw [decide_eq_decide]
    constructor
    · exact fun h => h.1
    · intro hn
      refine ⟨hn, z, ?_⟩
      have h1 : ¬ fI b < 0 := fun k => h.1 ⟨hn, z, k⟩
      have h2 : ¬ fI b = 0 := fun k => h.2 ⟨hn, z, k⟩
      omega
theorem refsplit_ev {b : Nat} (hb : b < 18446744073709551616) : Ev_ref01_Split b (if isF b then (partsB b, true) else (GParts.zero, false)) := by
  have hr := rung_lt hb
  have ha := rung_abs b
  have hf := isF_rung (b := b)
  have hsg := fI_eq b
  refine walk_ref01_Split ?_
  unfold W_ref01_Split
  refine Call.mk (index_ev hb) ⟨fun x => x = (rungB b : Int), ?_, fun x hx => ?_⟩
  · exact Br.d (fun h => Let.as (rungB b : Int) (by rw [wi (by omega) (by omega)]; omega) rfl) (fun h => by show _ = _; omega)
  · subst hx
    refine Br.d (fun h => ?_) (fun h => ?_)
    · rw [if_neg (fun k => by have := hf.1 k; omega)]
    · have hF : isF b := hf.2 (by omega)
      rw [if_pos hF]
      unfold partsB
      refine Br.e (fun h0 => ?_) (fun h0 => ?_)
      · rw [if_pos (by omega)]
      · rw [if_neg (by omega)]
        have hn : decide (fI b < 0) = negB b := by
          cases hb' : negB b with
          | true => rw [hb', if_pos rfl] at hsg; rw [decide_eq_true_iff]; omega
          | false => rw [hb', if_neg (by decide)] at hsg; rw [decide_eq_false_iff_not]; omega
        rw [hn]
        refine Let.as _ (wu (by omega) (by omega)) (Let.as ((rungB b % 4503599627370496 : Nat) : Int) rfl (Let.as _ (wu (by omega) (by omega)) (Let.as ((rungB b / 4503599627370496 : Nat) : Int) (by rw [show Int.tdiv (rungB b : Int) 4503599627370496 = ((rungB b / 4503599627370496 : Nat) : Int) from rfl, wu (by omega) (by omega)]) (Let.as _ (wi (by omega) (by omega)) ?_))))
        refine Br.e (fun c => ?_) (fun c => ?_)
        · have e1 : sP b = 0 := by unfold sP; omega
          have e2 : qP b = rungB b % 4503599627370496 := by unfold qP; rw [e1]; omega
          rw [e1, e2]; rfl
        · have e1 : (sP b : Int) = (rungB b / 4503599627370496 : Nat) - 1 := by unfold sP; omega
          have e2 : qP b = rungB b % 4503599627370496 + 4503599627370496 := by unfold qP sP; omega
          refine Let.as ((qP b : Nat) : Int) (by rw [wu (by omega) (by omega), e2]; omega) (Let.as ((sP b : Int) - 1074) (by rw [wi (by omega) (by omega)]; omega) rfl)
/-- A finite float as a number of the reference. -/
def fltZ (b : Nat) : Gref01Num := if rungB b = 0 then numZ false 0 0 else numZ (negB b) (qP b) ((sP b : Int) - 1074)
theorem float_ev {b : Nat} (hb : b < 18446744073709551616) (hf : isF b) : Ev_ref01_Float b (fltZ b) := by
  refine walk_ref01_Float ?_
  unfold W_ref01_Float
  refine Call.mk (refsplit_ev hb) ?_
  rw [if_pos hf]
  unfold fltZ partsB
  have hq := qP_lt b
  by_cases h0 : rungB b = 0
  · rw [if_pos h0, if_pos h0]
    exact Call.mk (of_ev 0 (by decide)) rfl
  · rw [if_neg h0, if_neg h0]
    exact Call.mk (of_ev (qP b) (by omega)) rfl
end Go.Sim.YtlglkgineclggaaDoor
