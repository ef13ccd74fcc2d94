/- What is proved: intervals with finite ends: what ival's functions make of them. -/
import Derived.Test.YtlkpbnhinnhlfaaGreatZLFFltN
import Derived.Test.YtlkpbnhinnhlfaaGreatZLFFltZ
import Derived.Test.YtlkpbnhinnhlfaaGreatZLFWF2

namespace Go.Sim.YtlkpbnhinnhlfaaGreat
open Go.RowKit Go.Proofs Go.Proofs.Tryz
/-- Finite ends, in order, no -0. -/
structure FinI (x : GIval) : Prop where
  l : x.Lo < 18446744073709551616
  h : x.Hi < 18446744073709551616
  fl : isF x.Lo
  fh : isF x.Hi
  zl : x.Lo ≠ 9223372036854775808
  zh : x.Hi ≠ 9223372036854775808
  le : fI x.Lo ≤ fI x.Hi
theorem isN_inf : isN 9218868437227405312 ∧ isN 18442240474082181120 := by decide
theorem fI_inf : fI 9218868437227405312 = 9218868437227405312 ∧ fI 18442240474082181120 = -9218868437227405312 := by decide
theorem empty_ev : Ev_ival_Empty ⟨9218868437227405312, 18442240474082181120⟩ := by
  refine walk_ival_Empty ?_
  unfold W_ival_Empty
  exact Call.mk inf1_ev (Call.mk infm_ev rfl)
theorem iplus_ev {v : Nat} (hv : v < 18446744073709551616) (h : v ≠ 9223372036854775808) : Ev_ival_plus v true := by
  refine walk_ival_plus ?_
  unfold W_ival_plus
  have e : (FloatKind.f64.format.order v 0 != some .eq) = !decide (rungB v = 0) := by rw [bne, eq_zero hv]
  rw [e]
  by_cases h0 : rungB v = 0
  · have : v = 0 := by unfold rungB at h0; split at h0 <;> omega
    subst this
    refine Br.f (by decide) (Call.mk (x := false) (walk_math_Signbit ?_) rfl)
    unfold W_math_Signbit
    exact Call.mk (float64bits_ev 0) (Let.as (0 : Int) (wi (by omega) (by omega)) rfl)
  · exact Br.t (by simp [h0]) rfl
/-- Adding 0 changes nothing. -/
theorem add_zero {b : Nat} (hb : b < 18446744073709551616) (hf : isF b) (hz : b ≠ 9223372036854775808) : farith .add .f64 b 0 = some b := by
  show Ieee.double.add b 0 = some b
  obtain ⟨m, i, e1, i0, i1, v1⟩ := read_num hb hf
  unfold Ieee.Format.add
  have r0 : Ieee.double.read 0 = .number false 0 (-1074) := by
    rw [read_eq (by decide)]; rfl
  rw [e1, r0]
  simp only [Ieee.Datum.sum, Option.map_some, Ieee.Format.write]
  have hmin : min i (-1074) = -1074 := by omega
  have hs : Ieee.signed (negB b) m (i - -1074).toNat + Ieee.signed false 0 (-1074 - -1074).toNat = fV (fI b) := by
    rw [fV_fI, v1, signed_mul]
    have : Ieee.signed false 0 (-1074 - -1074).toNat = 0 := by unfold Ieee.signed; simp
    rw [this, Int.add_zero]; congr 1
  rw [hmin, hs]
  have hb2 : b = (if negB b = true then 9223372036854775808 else 0) + rungB b := by
    unfold negB rungB
    by_cases h : b < 9223372036854775808
    · rw [if_pos h, decide_eq_false (by omega), if_neg (by decide)]; omega
    · rw [if_neg h, decide_eq_true (by omega), if_pos rfl]; omega
  by_cases h0 : rungB b = 0
  · have : b = 0 := by unfold rungB at h0; split at h0 <;> omega
    subst this
    rfl
  · have hne : fv (rungB b) ≠ 0 := by have := fv_lt (show 0 < rungB b by omega); rw [fv_zero] at this; omega
    have hv : fV (fI b) = if negB b = true then -(fv (rungB b) : Int) else fv (rungB b) := by rw [fV_fI]; unfold Ieee.signed; simp
    have ha : (fV (fI b)).natAbs = fv (rungB b) := by rw [hv]; split <;> omega
    have hd : decide (fV (fI b) < 0) = negB b := by rw [hv]; cases negB b <;> simp <;> omega
    rw [if_neg (show ¬ fV (fI b) = 0 by rw [hv]; split <;> omega), ha, hd, nearest_exact (r := rungB b) (a := 0) (b := 0) (isF_rung.1 hf) hne (by decide) rfl, ← hb2]
theorem fmax_eq {a b : Nat} (ha : a < 18446744073709551616) (hb : b < 18446744073709551616) (na : isN a) (nb : isN b) (za : a ≠ 9223372036854775808) (zb : b ≠ 9223372036854775808) :
    fmaxB a b = if fI a < fI b then b else a := by
  unfold fmaxB
  rw [order_eq ha hb na nb]
  show (match some (compareOfLessAndEq (fI a) (fI b)) with | some .lt => b | some .gt => a | _ => _) = _
  unfold compareOfLessAndEq
  by_cases h : fI a < fI b
  · rw [if_pos h, if_pos h]
  · rw [if_neg h, if_neg h]
    by_cases e : fI a = fI b
    · rw [if_pos e]
      have := fI_inj za zb e
      subst this
      simp
    · rw [if_neg e]
theorem fmin_eq {a b : Nat} (ha : a < 18446744073709551616) (hb : b < 18446744073709551616) (na : isN a) (nb : isN b) (za : a ≠ 9223372036854775808) (zb : b ≠ 9223372036854775808) :
    fminB a b = if fI a < fI b then a else b := by
  unfold fminB
  rw [order_eq ha hb na nb]
  show (match some (compareOfLessAndEq (fI a) (fI b)) with | some .lt => a | some .gt => b | _ => _) = _
  unfold compareOfLessAndEq
  by_cases h : fI a < fI b
  · rw [if_pos h, if_pos h]
  · rw [if_neg h, if_neg h]
    by_cases e : fI a = fI b
    · rw [if_pos e]
      have := fI_inj za zb e
      subst this
      simp
    · rw [if_neg e]
theorem order_ne {a b : Nat} (ha : a < 18446744073709551616) (hb : b < 18446744073709551616) (na : isN a) (nb : isN b) : Ieee.double.order a b ≠ none := by
  rw [order_eq ha hb na nb]; simp
end Go.Sim.YtlkpbnhinnhlfaaGreat
-- seatfit

/- What is proved: the product of two intervals with finite ends; the interval of a number. -/
namespace Go.Sim.YtlkpbnhinnhlfaaGreat
open Go.RowKit Go.Proofs Go.Proofs.Tryz
theorem Loop3.two {α β : Type} {a0 a1 a2 : α} {b0 b1 b2 : β} {B : α → β → Int → (α → β → Int → Prop) → Prop} (h0 : ∀ k : α → β → Int → Prop, k a1 b1 1 → B a0 b0 0 k) (h1 : ∀ k : α → β → Int → Prop, k a2 b2 2 → B a1 b1 1 k)
    (h2 : ∀ k : α → β → Int → Prop, B a2 b2 2 k) : Loop3 a0 b0 (0 : Int) B := by
  refine ⟨fun a b i => (i = 0 ∧ a = a0 ∧ b = b0) ∨ (i = 1 ∧ a = a1 ∧ b = b1) ∨ (i = 2 ∧ a = a2 ∧ b = b2), fun _ _ i => (2 - i).toNat, .inl ⟨rfl, rfl, rfl⟩, ?_⟩
  rintro a b i (⟨rfl, rfl, rfl⟩ | ⟨rfl, rfl, rfl⟩ | ⟨rfl, rfl, rfl⟩)
  · exact h0 _ ⟨.inr (.inl ⟨rfl, rfl, rfl⟩), by show (2 - (1 : Int)).toNat < (2 - (0 : Int)).toNat; decide⟩
  · exact h1 _ ⟨.inr (.inr ⟨rfl, rfl, rfl⟩), by show (2 - (2 : Int)).toNat < (2 - (1 : Int)).toNat; decide⟩
  · exact h2 _
/-- A word that is a number, not -0. -/
structure NumB (b : Nat) : Prop where
  l : b < 18446744073709551616
  n : isN b
  z : b ≠ 9223372036854775808
theorem NumB.min {a b : Nat} (ha : NumB a) (hb : NumB b) : NumB (fminB a b) ∧ fI (fminB a b) = min (fI a) (fI b) := by
  rw [fmin_eq ha.l hb.l ha.n hb.n ha.z hb.z]
  split
  · exact ⟨ha, by omega⟩
  · exact ⟨hb, by omega⟩
theorem NumB.max {a b : Nat} (ha : NumB a) (hb : NumB b) : NumB (fmaxB a b) ∧ fI (fmaxB a b) = max (fI a) (fI b) := by
  rw [fmax_eq ha.l hb.l ha.n hb.n ha.z hb.z]
  split
  · exact ⟨hb, by omega⟩
  · exact ⟨ha, by omega⟩
theorem mulB_rd (a b : Nat) (dir : Int) : mulB a b dir = rd (fV (fI a) * fV (fI b)) (2 ^ 1074) dir := rfl
theorem addB_rd (a b : Nat) (dir : Int) : addB a b dir = rd (fV (fI a) + fV (fI b)) 1 dir := rfl
theorem rd_num (P : Int) (Q : Nat) (dir : Int) : NumB (rd P Q dir) := ⟨(rd_ok P Q dir).1, (rd_ok P Q dir).2.2, (rd_ok P Q dir).2.1⟩
end Go.Sim.YtlkpbnhinnhlfaaGreat
