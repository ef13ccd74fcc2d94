/- What is proved: intervals with finite ends: what ival's functions make of them. -/
import Derived.Test.YtlglkgineclggaaDoorZRTFltN
import Derived.Test.YtlglkgineclggaaDoorZRTFltO
import Derived.Test.YtlglkgineclggaaDoorZRTWF2
namespace Go.Sim.YtlglkgineclggaaDoor
open Go.RowKit Go.Proofs Go.Proofs.Tryd
/-- Finite ends, in order, no -0. -/
structure FinI (x : GIval) : Prop where
  l : x.Lo < 18446744073709551616
  h : x.Hi < 18446744073709551616
  fl : isF x.Lo
  fh : isF x.Hi
  zl : x.Lo ≠ 9223372036854775808
  zh : x.Hi ≠ 9223372036854775808
  le : fI x.Lo ≤ fI x.Hi
theorem isN_inf : isN 9218868437227405312 ∧ isN 18442240474082181120 := by decide
theorem fI_inf : fI 9218868437227405312 = 9218868437227405312 ∧ fI 18442240474082181120 = -9218868437227405312 := by decide
theorem empty_ev : Ev_ival_Empty ⟨9218868437227405312, 18442240474082181120⟩ := by
  refine walk_ival_Empty ?_
  unfold W_ival_Empty
  exact Call.mk inf1_ev (Call.mk infm_ev rfl)
theorem iplus_ev {v : Nat} (hv : v < 18446744073709551616) (h : v ≠ 9223372036854775808) : Ev_ival_plus v true := by
  refine walk_ival_plus ?_
  unfold W_ival_plus
  have e : (FloatKind.f64.format.order v 0 != some .eq) = !decide (rungB v = 0) := by rw [bne, eq_zero hv]
  rw [e]
  by_cases h0 : rungB v = 0
  · have : v = 0 := by unfold rungB at h0; split at h0 <;> omega
    subst this
    refine Br.f (by decide) (Call.mk (x := false) (walk_math_Signbit ?_) rfl)
    unfold W_math_Signbit
    exact Call.mk (float64bits_ev 0) (Let.as (0 : Int) (wi (by omega) (by omega)) rfl)
  · exact Br.t (by simp [h0]) rfl
theorem not_empty {x : GIval} (hx : FinI x) : GIval.beq x ⟨9218868437227405312, 18442240474082181120⟩ = false := by
  unfold GIval.beq
  have hl := hx.fl
  unfold isF at hl
  have : (FloatKind.f64.format.order x.Lo 9218868437227405312 == some .eq) = false := by
    rw [fmt64, order_eqv hx.l (by decide), decide_eq_false_iff_not, fI_inf.1]; omega
  show ((FloatKind.f64.format.order x.Lo 9218868437227405312 == some .eq) && _) = false
  rw [this, Bool.false_and]
theorem right_ok {x : GIval} (hx : FinI x) : Ev_ival_Right x true := by
  have hl := hx.fl; have hh := hx.fh; have nl := hx.fl.n; have nh := hx.fh.n; have hle := hx.le
  refine walk_ival_Right ?_
  unfold W_ival_Right
  refine Call.mk empty_ev (Br.f (not_empty hx) (Br.t ?_ (Call.mk inf1_ev (Br.t ?_ (Call.mk infm_ev (Br.t ?_ (Call.mk (iplus_ev hx.l hx.zl) (Br.t rfl (Call.mk (iplus_ev hx.h hx.zh) rfl)))))))))
  · rw [fmt64, order_lt hx.l hx.h, order_eqv hx.l hx.h, Bool.or_eq_true, decide_eq_true_iff, decide_eq_true_iff]
    by_cases e : fI x.Lo = fI x.Hi
    · exact .inr ⟨nl, nh, e⟩
    · exact .inl ⟨nl, nh, by omega⟩
  · unfold isF at hl
    rw [fmt64, order_lt hx.l (by decide), decide_eq_true_iff, fI_inf.1]; exact ⟨nl, isN_inf.1, hl.2⟩
  · unfold isF at hh
    rw [fmt64, order_gt hx.h (by decide), decide_eq_true_iff, fI_inf.2]; exact ⟨nh, isN_inf.2, hh.1⟩
/-- Adding 0 changes nothing. -/
theorem add_zero {b : Nat} (hb : b < 18446744073709551616) (hf : isF b) (hz : b ≠ 9223372036854775808) : farith .add .f64 b 0 = some b := by
  show Ieee.double.add b 0 = some b
  obtain ⟨m, i, e1, i0, i1, v1⟩ := read_num hb hf
  unfold Ieee.Format.add
  have r0 : Ieee.double.read 0 = .number false 0 (-1074) := by
    rw [read_eq (by decide)]; rfl
  rw [e1, r0]
  simp only [Ieee.Datum.sum, Option.map_some, Ieee.Format.write]
  have hmin : min i (-1074) = -1074 := by omega
  have hs : Ieee.signed (negB b) m (i - -1074).toNat + Ieee.signed false 0 (-1074 - -1074).toNat = fV (fI b) := by
    rw [fV_fI, v1, signed_mul]
    have : Ieee.signed false 0 (-1074 - -1074).toNat = 0 := by unfold Ieee.signed; simp
    rw [this, Int.add_zero]; congr 1
  rw [hmin, hs]
  have hb2 : b = (if negB b = true then 9223372036854775808 else 0) + rungB b := by
    unfold negB rungB
    by_cases h : b < 9223372036854775808
    · rw [if_pos h, decide_eq_false (by omega), if_neg (by decide)]; omega
    · rw [if_neg h, decide_eq_true (by omega), if_pos rfl]; omega
  by_cases h0 : rungB b = 0
  · have : b = 0 := by unfold rungB at h0; split at h0 <;> omega
    subst this
    rfl
  · have hne : fv (rungB b) ≠ 0 := by have := fv_lt (show 0 < rungB b by omega); rw [fv_zero] at this; omega
    have hv : fV (fI b) = if negB b = true then -(fv (rungB b) : Int) else fv (rungB b) := by rw [fV_fI]; unfold Ieee.signed; simp
    have ha : (fV (fI b)).natAbs = fv (rungB b) := by rw [hv]; split <;> omega
    have hd : decide (fV (fI b) < 0) = negB b := by rw [hv]; cases negB b <;> simp <;> omega
    rw [if_neg (show ¬ fV (fI b) = 0 by rw [hv]; split <;> omega), ha, hd, nearest_exact (r := rungB b) (a := 0) (b := 0) (isF_rung.1 hf) hne (by decide) rfl, ← hb2]
theorem make_ev2 {lo hi : Nat} (h : FinI ⟨lo, hi⟩) : Ev_ival_Make lo hi ⟨lo, hi⟩ := by
  refine walk_ival_Make ?_
  unfold W_ival_Make
  exact ⟨lo, add_zero h.l h.fl h.zl, hi, add_zero h.h h.fh h.zh, Call.mk (right_ok h) (Br.f rfl rfl)⟩
theorem fmax_eq {a b : Nat} (ha : a < 18446744073709551616) (hb : b < 18446744073709551616) (na : isN a) (nb : isN b) (za : a ≠ 9223372036854775808) (zb : b ≠ 9223372036854775808) :
    fmaxB a b = if fI a < fI b then b else a := by
  unfold fmaxB
  rw [order_eq ha hb na nb]
  show (match some (compareOfLessAndEq (fI a) (fI b)) with | some .lt => b | some .gt => a | _ => _) = _
  unfold compareOfLessAndEq
  by_cases h : fI a < fI b
  · rw [if_pos h, if_pos h]
  · rw [if_neg h, if_neg h]
    by_cases e : fI a = fI b
    · rw [if_pos e]
      have := fI_inj za zb e
      subst this
      simp
    · rw [if_neg e]
theorem fmin_eq {a b : Nat} (ha : a < 18446744073709551616) (hb : b < 18446744073709551616) (na : isN a) (nb : isN b) (za : a ≠ 9223372036854775808) (zb : b ≠ 9223372036854775808) :
    fminB a b = if fI a < fI b then a else b := by
  unfold fminB
  rw [order_eq ha hb na nb]
  show (match some (compareOfLessAndEq (fI a) (fI b)) with | some .lt => a | some .gt => b | _ => _) = _
  unfold compareOfLessAndEq
  by_cases h : fI a < fI b
  · rw [if_pos h, if_pos h]
  · rw [if_neg h, if_neg h]
    by_cases e : fI a = fI b
    · rw [if_pos e]
      have := fI_inj za zb e
      subst this
      simp
    · rw [if_neg e]
end Go.Sim.YtlglkgineclggaaDoor
