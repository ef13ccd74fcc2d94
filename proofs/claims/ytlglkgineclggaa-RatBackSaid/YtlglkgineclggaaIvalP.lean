/- What is proved: intervals with finite ends: what ival's functions make of them. -/
import Derived.Test.YtlglkgineclggaaFltN
import Derived.Test.YtlglkgineclggaaFltO
import Derived.Test.YtlglkgineclggaaWF2
namespace Go.Sim.Ytlglkgineclggaa
open Go.RowKit Go.Proofs Go.Proofs.Try

/-- Finite ends, in order, no -0. -/
structure FinI (x : GIval) : Prop where
  l : x.Lo < 18446744073709551616
  h : x.Hi < 18446744073709551616
  fl : isF x.Lo
  fh : isF x.Hi
  zl : x.Lo ≠ 9223372036854775808
  zh : x.Hi ≠ 9223372036854775808
  le : fI x.Lo ≤ fI x.Hi

theorem isN_inf : isN 9218868437227405312 ∧ isN 18442240474082181120 := by decide
theorem fI_inf : fI 9218868437227405312 = 9218868437227405312 ∧ fI 18442240474082181120 = -9218868437227405312 := by decide

theorem empty_ev : Ev_ival_Empty ⟨9218868437227405312, 18442240474082181120⟩ := by
  refine walk_ival_Empty ?_
  unfold W_ival_Empty
  exact Call.mk inf1_ev (Call.mk infm_ev rfl)

theorem plus_ev {v : Nat} (hv : v < 18446744073709551616) (h : v ≠ 9223372036854775808) : Ev_ival_plus v true := by
  refine walk_ival_plus ?_
  unfold W_ival_plus
  have e : (FloatKind.f64.format.order v 0 != some .eq) = !decide (rungB v = 0) := by rw [bne, eq_zero hv]
  rw [e]
  by_cases h0 : rungB v = 0
  · have : v = 0 := by unfold rungB at h0; split at h0 <;> omega
    subst this
    refine Br.f (by decide) (Call.mk (x := false) (walk_math_Signbit ?_) rfl)
    unfold W_math_Signbit
    exact Call.mk (float64bits_ev 0) (Let.as (0 : Int) (wi (by omega) (by omega)) rfl)
  · exact Br.t (by simp [h0]) rfl

theorem not_empty {x : GIval} (hx : FinI x) : GIval.beq x ⟨9218868437227405312, 18442240474082181120⟩ = false := by
  unfold GIval.beq
  have hl := hx.fl
  unfold isF at hl
  have : (FloatKind.f64.format.order x.Lo 9218868437227405312 == some .eq) = false := by
    rw [fmt64, order_eqv hx.l (by decide), decide_eq_false_iff_not, fI_inf.1]; omega
  show ((FloatKind.f64.format.order x.Lo 9218868437227405312 == some .eq) && _) = false
  rw [this, Bool.false_and]

theorem right_ok {x : GIval} (hx : FinI x) : Ev_ival_Right x true := by
  have hl := hx.fl; have hh := hx.fh; have nl := hx.fl.n; have nh := hx.fh.n; have hle := hx.le
  refine walk_ival_Right ?_
  unfold W_ival_Right
  refine Call.mk empty_ev (Br.f (not_empty hx) (Br.t ?_ (Call.mk inf1_ev (Br.t ?_ (Call.mk infm_ev (Br.t ?_ (Call.mk (plus_ev hx.l hx.zl) (Br.t rfl (Call.mk (plus_ev hx.h hx.zh) rfl)))))))))
  · rw [fmt64, order_lt hx.l hx.h, order_eqv hx.l hx.h, Bool.or_eq_true, decide_eq_true_iff, decide_eq_true_iff]
    by_cases e : fI x.Lo = fI x.Hi
    · exact .inr ⟨nl, nh, e⟩
    · exact .inl ⟨nl, nh, by omega⟩
  · unfold isF at hl
    rw [fmt64, order_lt hx.l (by decide), decide_eq_true_iff, fI_inf.1]; exact ⟨nl, isN_inf.1, hl.2⟩
  · unfold isF at hh
    rw [fmt64, order_gt hx.h (by decide), decide_eq_true_iff, fI_inf.2]; exact ⟨nh, isN_inf.2, hh.1⟩

theorem none_ev {l : List GIval} (hl : ∀ x ∈ l, FinI x) (hn : l.length ≤ 1000) : Ev_ival_none l false := by
  refine walk_ival_none ?_
  unfold W_ival_none
  refine Loop1.up l.length (fun _ => True) trivial ?_
  intro i k hi _ hk
  refine Br.d (fun h => At.nat (by omega) fun x hx => Call.mk (right_ok (hl x (List.mem_of_getElem? hx))) (Br.f rfl (Call.mk empty_ev (Br.f (not_empty (hl x (List.mem_of_getElem? hx))) (Let.as _ (wi1 (by omega)) (hk (by omega) trivial)))))) (fun _ => rfl)

/-- Adding 0 changes nothing. -/
theorem add_zero {b : Nat} (hb : b < 18446744073709551616) (hf : isF b) (hz : b ≠ 9223372036854775808) : farith .add .f64 b 0 = some b := by
  show Ieee.double.add b 0 = some b
  obtain ⟨m, i, e1, i0, i1, v1⟩ := read_num hb hf
  unfold Ieee.Format.add
  have r0 : Ieee.double.read 0 = .number false 0 (-1074) := by
    rw [read_eq (by decide)]; rfl
  rw [e1, r0]
  simp only [Ieee.Datum.sum, Option.map_some, Ieee.Format.write]
  have hmin : min i (-1074) = -1074 := by omega
  have hs : Ieee.signed (negB b) m (i - -1074).toNat + Ieee.signed false 0 (-1074 - -1074).toNat = fV (fI b) := by
    rw [fV_fI, v1, signed_mul]
    have : Ieee.signed false 0 (-1074 - -1074).toNat = 0 := by unfold Ieee.signed; simp
    rw [this, Int.add_zero]; congr 1
  rw [hmin, hs]
  have hb2 : b = (if negB b = true then 9223372036854775808 else 0) + rungB b := by
    unfold negB rungB
    by_cases h : b < 9223372036854775808
    · rw [if_pos h, decide_eq_false (by omega), if_neg (by decide)]; omega
    · rw [if_neg h, decide_eq_true (by omega), if_pos rfl]; omega
  by_cases h0 : rungB b = 0
  · have : b = 0 := by unfold rungB at h0; split at h0 <;> omega
    subst this
    rfl
  · have hne : fv (rungB b) ≠ 0 := by have := fv_lt (show 0 < rungB b by omega); rw [fv_zero] at this; omega
    have hv : fV (fI b) = if negB b = true then -(fv (rungB b) : Int) else fv (rungB b) := by rw [fV_fI]; unfold Ieee.signed; simp
    have ha : (fV (fI b)).natAbs = fv (rungB b) := by rw [hv]; split <;> omega
    have hd : decide (fV (fI b) < 0) = negB b := by rw [hv]; cases negB b <;> simp <;> omega
    rw [if_neg (show ¬ fV (fI b) = 0 by rw [hv]; split <;> omega), ha, hd, nearest_exact (r := rungB b) (a := 0) (b := 0) (isF_rung.1 hf) hne (by decide) rfl, ← hb2]

theorem make_ev2 {lo hi : Nat} (h : FinI ⟨lo, hi⟩) : Ev_ival_Make lo hi ⟨lo, hi⟩ := by
  refine walk_ival_Make ?_
  unfold W_ival_Make
  exact ⟨lo, add_zero h.l h.fl h.zl, hi, add_zero h.h h.fh h.zh, Call.mk (right_ok h) (Br.f rfl rfl)⟩

theorem fmax_eq {a b : Nat} (ha : a < 18446744073709551616) (hb : b < 18446744073709551616) (na : isN a) (nb : isN b) (za : a ≠ 9223372036854775808) (zb : b ≠ 9223372036854775808) :
    fmaxB a b = if fI a < fI b then b else a := by
  unfold fmaxB
  rw [order_eq ha hb na nb]
  show (match some (compareOfLessAndEq (fI a) (fI b)) with | some .lt => b | some .gt => a | _ => _) = _
  unfold compareOfLessAndEq
  by_cases h : fI a < fI b
  · rw [if_pos h, if_pos h]
  · rw [if_neg h, if_neg h]
    by_cases e : fI a = fI b
    · rw [if_pos e]
      have := fI_inj za zb e
      subst this
      simp
    · rw [if_neg e]
theorem fmin_eq {a b : Nat} (ha : a < 18446744073709551616) (hb : b < 18446744073709551616) (na : isN a) (nb : isN b) (za : a ≠ 9223372036854775808) (zb : b ≠ 9223372036854775808) :
    fminB a b = if fI a < fI b then a else b := by
  unfold fminB
  rw [order_eq ha hb na nb]
  show (match some (compareOfLessAndEq (fI a) (fI b)) with | some .lt => a | some .gt => b | _ => _) = _
  unfold compareOfLessAndEq
  by_cases h : fI a < fI b
  · rw [if_pos h, if_pos h]
  · rw [if_neg h, if_neg h]
    by_cases e : fI a = fI b
    · rw [if_pos e]
      have := fI_inj za zb e
      subst this
      simp
    · rw [if_neg e]

theorem order_ne {a b : Nat} (ha : a < 18446744073709551616) (hb : b < 18446744073709551616) (na : isN a) (nb : isN b) : Ieee.double.order a b ≠ none := by
  rw [order_eq ha hb na nb]; simp

theorem ends_ev {lo hi : Nat} (h : FinI ⟨lo, hi⟩) : Ev_ival_ends lo hi ⟨lo, hi⟩ := by
  have hl := h.fl; have hh := h.fh
  refine walk_ival_ends ?_
  unfold W_ival_ends
  have m1 : isN 9218868437227405311 := by decide
  have m2 : isN 18442240474082181119 := by decide
  have e1 : fI 9218868437227405311 = 9218868437227405311 := by decide
  have e2 : fI 18442240474082181119 = -9218868437227405311 := by decide
  unfold isF at hl hh
  simp only at hl hh
  refine ⟨order_ne h.l (by decide) h.fl.n m1, Let.as lo ?_ ⟨order_ne h.h (by decide) h.fh.n m2, Let.as hi ?_ (Call.mk (make_ev2 h) rfl)⟩⟩
  · rw [fmin_eq h.l (by decide) h.fl.n m1 h.zl (by decide), e1]
    split
    · rfl
    · rename_i hc; have hc' : ¬ fI lo < 9218868437227405311 := hc
      exact (fI_inj h.zl (by decide) (by rw [e1]; show fI lo = _; omega)).symm
  · rw [fmax_eq h.h (by decide) h.fh.n m2 h.zh (by decide), e2]
    split
    · rename_i hc; have hc' : fI hi < -9218868437227405311 := hc
      exact (fI_inj h.zh (by decide) (by rw [e2]; show fI hi = _; omega)).symm
    · rfl

theorem iadd_ev {x y : GIval} (hx : FinI x) (hy : FinI y) (h : FinI ⟨addB x.Lo y.Lo (-1), addB x.Hi y.Hi 1⟩) : Ev_ival_Add x y ⟨addB x.Lo y.Lo (-1), addB x.Hi y.Hi 1⟩ := by
  refine walk_ival_Add ?_
  unfold W_ival_Add
  refine Call.mk (none_ev (l := [x, y]) (fun z hz => by simp at hz; rcases hz with rfl | rfl <;> assumption) (by simp)) (Br.f rfl (Call.mk (add_ev _ hx.l hy.l hx.fl hy.fl) (Call.mk (add_ev _ hx.h hy.h hx.fh hy.fh) (Call.mk (ends_ev h) rfl))))

theorem inside_ev {x y : GIval} (hx : FinI x) (hy : FinI y) : Ev_ival_Inside x y (decide (fI y.Lo ≤ fI x.Lo ∧ fI x.Hi ≤ fI y.Hi)) := by
  have le : ∀ {a b : Nat}, a < 18446744073709551616 → b < 18446744073709551616 → isF a → isF b → ((FloatKind.f64.format.order a b == some .lt) || (FloatKind.f64.format.order a b == some .eq)) = decide (fI a ≤ fI b) := by
    intro a b ha hb fa fb
    have na := fa.n; have nb := fb.n
    rw [fmt64, order_lt ha hb, order_eqv ha hb, Bool.eq_iff_iff, Bool.or_eq_true, decide_eq_true_iff, decide_eq_true_iff, decide_eq_true_iff]
    constructor
    · rintro (⟨_, _, h⟩ | ⟨_, _, h⟩) <;> omega
    · intro h
      by_cases e : fI a = fI b
      · exact .inr ⟨na, nb, e⟩
      · exact .inl ⟨na, nb, by omega⟩
  refine walk_ival_Inside ?_
  unfold W_ival_Inside
  rw [le hy.l hx.l hy.fl hx.fl, le hx.h hy.h hx.fh hy.fh]
  refine Call.mk (none_ev (l := [x]) (fun z hz => by simp at hz; subst hz; exact hx) (by simp)) (Br.f rfl (Call.mk (none_ev (l := [y]) (fun z hz => by simp at hz; subst hz; exact hy) (by simp)) (Br.t rfl (Br.d (fun h => ?_) (fun h => ?_)))))
  · show _ = _; rw [decide_eq_decide]; exact ⟨fun h2 => ⟨h, h2⟩, fun h2 => h2.2⟩
  · show _ = _; symm; rw [decide_eq_false_iff_not]; exact fun h2 => h h2.1

end Go.Sim.Ytlglkgineclggaa
