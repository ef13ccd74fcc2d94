/- What is proved: the reference's rounding of a quotient of two whole numbers; the interval that holds a number. -/
import Derived.Test.YtlglkgineclggaaDoorZRTFltZ3
import Derived.Test.YtlglkgineclggaaDoorZRTIvalX
import Derived.Test.YtlglkgineclggaaDoorZRTRatH
namespace Go.Sim.YtlglkgineclggaaDoor
open Go.RowKit Go.Proofs Go.Proofs.Tryd
set_option exponentiation.threshold 40000
/-- An exact number, by a whole one. -/
def exD (s : Bool) (m : Nat) (e : Int) (D : Nat) : Gref01Exact := { Gref01Exact.zero with A := numZ s m e, B := numZ false D 0 }
structure NOkS (s : Bool) (m : Nat) (e : Int) : Prop where
  z : m = 0 → s = false
  l : (dig m).length ≤ 1000
  e : -3500 ≤ e ∧ e ≤ 3500
theorem KD_pos {D : Nat} (hD : 0 < D) : (0 : Int) < (k26 : Int) * D := Int.mul_pos K_pos (by omega)
theorem product_D {t : Bool} {n D : Nat} {f : Int} (h : NOkS t n f) (hD : 0 < D) (hD2 : D < 18446744073709551616) :
    ∃ t' n' f', Ev_ref01_Product (numZ t n f) (numZ false D 0) (numZ t' n' f') ∧ NOk t' n' f' ∧ valZ t' n' f' = valZ t n f * (D : Int) := by
  obtain ⟨h1, h2, h3⟩ := h
  have d1 := len64 hD2
  have := product_ev t false n D f 0 (by omega) (by omega) (by omega) (by omega)
  rw [Int.add_zero, zero_numZ] at this
  by_cases h0 : n = 0
  · subst h0
    rw [Nat.zero_mul, if_pos rfl] at this
    refine ⟨_, _, _, this, ⟨fun _ => rfl, by rw [dig_zero]; decide, by decide⟩, ?_⟩
    rw [h1 rfl]; unfold valZ valS amtZ; simp
  · have hnD : n * D ≠ 0 := Nat.mul_ne_zero h0 (by omega)
    rw [if_neg hnD] at this
    have hl : (dig (n * D)).length ≤ 10000 := by
      have a1 := dig_upper n
      have a2 : D < 4294967296 ^ 2 := by simpa using hD2
      have a3 : n * D < 4294967296 ^ ((dig n).length + 2) := by
        rw [Nat.pow_add]; exact Nat.mul_lt_mul_of_lt_of_lt a1 a2
      have := dig_length a3
      omega
    have hv : amtZ (n * D) f = amtZ n f * D := by unfold amtZ; rw [Nat.mul_assoc, Nat.mul_assoc, Nat.mul_comm D]
    refine ⟨_, _, _, this, ?_, ?_⟩
    · exact ⟨fun h => absurd h hnD, hl, h3⟩
    · unfold valZ
      rw [hv]
      cases t
      · show ((amtZ n f * D : Nat) : Int) = ((amtZ n f : Nat) : Int) * D; rw [Int.natCast_mul]
      · show -((amtZ n f * D : Nat) : Int) = -((amtZ n f : Nat) : Int) * D; rw [Int.natCast_mul, Int.neg_mul]
theorem belowD_ev {s t : Bool} {m n D : Nat} {e f : Int} (h : NOk s m e) (k : NOkS t n f) (hD : 0 < D) (hD2 : D < 18446744073709551616) : Ev_ref01_below (numZ t n f) (exD s m e D) (decide (valZ t n f * (D : Int) ≤ valZ s m e)) := by
  obtain ⟨t', n', f', h1, h2, h3⟩ := product_D k hD hD2
  refine walk_ref01_below ?_
  unfold W_ref01_below
  have h4 := NOk.order h2 h
  rw [h3] at h4
  refine Br.f rfl (Call.mk h1 (Call.mk h4 (Call.mk (sign_ev false D 0) (Br.dF (by unfold sgS; simp; try omega) ?_))))
  show decide _ = decide _
  rw [decide_eq_decide]
  have e1 := @sgnS_neg (valZ t n f * (D : Int)) (valZ s m e)
  have e2 := @sgnS_zero (valZ t n f * (D : Int)) (valZ s m e)
  omega
theorem sameD_ev {s t : Bool} {m n D : Nat} {e f : Int} (h : NOk s m e) (k : NOkS t n f) (hD : 0 < D) (hD2 : D < 18446744073709551616) : Ev_ref01_same (numZ t n f) (exD s m e D) (decide (valZ t n f * (D : Int) = valZ s m e)) := by
  obtain ⟨t', n', f', h1, h2, h3⟩ := product_D k hD hD2
  refine walk_ref01_same ?_
  unfold W_ref01_same
  have h4 := NOk.order h2 h
  rw [h3] at h4
  refine Br.f rfl (Call.mk h1 (Call.mk h4 ?_))
  have e2 := @sgnS_zero (valZ t n f * (D : Int)) (valZ s m e)
  by_cases hc : valZ t n f * (D : Int) = valZ s m e
  · rw [e2.2 hc, decide_eq_true hc]; rfl
  · rw [decide_eq_false hc]; exact beq_false_of_ne (fun k => hc (e2.1 k))
theorem placeD_ev {i : Int} (h1 : -9218868437227405312 < i) (h2 : i < 9218868437227405312) : ∃ t n f, Ev_ref01_Float (atI i) (numZ t n f) ∧ NOkS t n f ∧ valZ t n f = fV i * (k26 : Int) := by
  obtain ⟨hl, hi⟩ := atI_lt (i := i) (by omega) (by omega)
  have hf := atI_F h1 h2
  obtain ⟨t, n, f, hz⟩ := flZ (atI i) hl hf
  have := float_ev hl hf
  rw [hz.eq] at this
  exact ⟨t, n, f, this, ⟨hz.z, by have := dig_lt53 hz.l; omega, by have := hz.be; omega⟩, by rw [hz.v, hi]⟩
theorem downD_ev {s : Bool} {m D : Nat} {e : Int} (h : NOk s m e) (hD : 0 < D) (hD2 : D < 18446744073709551616) {P : Int} {Q : Nat} (hQ : 0 < Q) (hv : valZ s m e * Q = P * ((k26 : Int) * D)) : ∃ d, Ev_ref01_Down (exD s m e D) d ∧ IsDn P Q d := by
  suffices hs : ∃ d, W_ref01_Down (exD s m e D) (fun r => r = d) ∧ IsDn P Q d by
    obtain ⟨d, h1, h2⟩ := hs; exact ⟨d, walk_ref01_Down h1, h2⟩
  obtain ⟨d, hd⟩ : ∃ d, IsDn P Q d := by
    refine ⟨dp P Q, (dp_range P Q).1, (dp_range P Q).2, ?_, ?_⟩
    · by_cases h : dp P Q = -9218868437227405312
      · exact .inl h
      · have := dp_range P Q
        exact .inr ((le_dp hQ (by omega) (by omega)).1 (Int.le_refl _))
    · by_cases h : dp P Q = 9218868437227405311
      · exact .inl h
      · have := dp_range P Q
        have h3 := le_dp (P := P) (Q := Q) (i := dp P Q + 1) hQ (by omega) (by omega)
        right; omega
  refine ⟨d, ?_, hd⟩
  have key : ∀ i : Int, -9218868437227405312 < i → i ≤ 9218868437227405311 → (fV i * Q ≤ P ↔ i ≤ d) := by
    intro i h1 h2
    constructor
    · intro hle
      by_cases hc : i ≤ d
      · exact hc
      · rcases hd.gt with hg | hg
        · omega
        · have := fV_mono (show d + 1 ≤ i by omega)
          have := Int.mul_le_mul_of_nonneg_right this (show (0 : Int) ≤ Q by omega)
          omega
    · intro hle
      rcases hd.le with hg | hg
      · omega
      · have := fV_mono hle
        have := Int.mul_le_mul_of_nonneg_right this (show (0 : Int) ≤ Q by omega)
        omega
  have d1 := hd.lo
  have d2 := hd.hi
  clear hd
  unfold W_ref01_Down
  refine ⟨fun lo hi => -9218868437227405312 ≤ lo ∧ lo ≤ d ∧ d ≤ hi ∧ hi ≤ 9218868437227405311, fun lo hi => (hi - lo).toNat, ⟨by omega, by omega, by omega, by omega⟩, ?_⟩
  rintro lo hi ⟨k1, k2, k3, k4⟩
  refine Br.d (fun hlt => ?_) (fun hge => by omega)
  have t1 := tdm lo
  have t2 := tdm hi
  generalize Int.tdiv lo 2 = a at *
  generalize Int.tmod lo 2 = r at *
  generalize Int.tdiv hi 2 = b at *
  generalize Int.tmod hi 2 = q at *
  have t3 := tdm (r + q + 1)
  refine Let.as a (wi (by omega) (by omega)) (Let.as b (wi (by omega) (by omega)) (Let.as (a + b) (wi (by omega) (by omega)) (Let.as r rfl (Let.as q rfl (Let.as (r + q) (wi (by omega) (by omega)) (Let.as (r + q + 1) (wi (by omega) (by omega)) ?_))))))
  generalize Int.tdiv (r + q + 1) 2 = c at *
  generalize Int.tmod (r + q + 1) 2 = u at *
  refine Let.as c (wi (by omega) (by omega)) (Let.as (a + b + c) (wi (by omega) (by omega)) ⟨fun x => lo < x ∧ x ≤ hi, ?_, fun x hx => ?_⟩)
  · exact Br.d (fun h => Let.as (lo + 1) (wi (by omega) (by omega)) ⟨by omega, by omega⟩) (fun h => ⟨by omega, by omega⟩)
  · obtain ⟨t, n, f, p1, p2, p3⟩ := placeD_ev (i := x) (by omega) (by omega)
    refine Call.mk (at_ev (by omega) (by omega)) (Call.mk p1 (Call.mk (belowD_ev h p2 hD hD2) ?_))
    rw [p3, Int.mul_assoc]
    have hk := key x (by omega) (by omega)
    rw [← scale_le (K := (k26 : Int) * D) hQ (KD_pos hD) hv] at hk
    refine Br.d (fun hb => ?_) (fun hb => ?_)
    · have := hk.1 hb
      exact ⟨⟨by omega, by omega, by omega, by omega⟩, by show (hi - x).toNat < (hi - lo).toNat; omega⟩
    · have : ¬ x ≤ d := fun c => hb (hk.2 c)
      exact Let.as (x - 1) (wi (by omega) (by omega)) ⟨⟨by omega, by omega, by omega, by omega⟩, by show (x - 1 - lo).toNat < (hi - lo).toNat; omega⟩
theorem roundedD_ev {s : Bool} {m D : Nat} {e : Int} (h : NOk s m e) (hD : 0 < D) (hD2 : D < 18446744073709551616) {P : Int} {Q : Nat} (hQ : 0 < Q) (hv : valZ s m e * Q = P * ((k26 : Int) * D)) (dir : Int) : Ev_ref01_Rounded (exD s m e D) dir (rd P Q dir) := by
  have hKD := KD_pos hD
  obtain ⟨d, hd, hdn⟩ := downD_ev h hD hD2 hQ hv
  have e0 : rd P Q dir = refR P Q d dir := (ref_rnd hQ hdn).symm
  rw [e0]
  have d1 := hdn.lo
  have d2 := hdn.hi
  have w1 : IntKind.i64.wrap (d + 1) = d + 1 := wi (by omega) (by omega)
  refine walk_ref01_Rounded ?_
  unfold W_ref01_Rounded
  refine Call.mk hd ⟨fun x => x = decide ((-9218868437227405311 ≤ d ∧ fV d * Q = P) ∨ dir < 0), ?_, fun x hx => ?_⟩
  · refine Br.d (fun c => ?_) (fun c => ?_)
    · obtain ⟨t, n, f, p1, p2, p3⟩ := placeD_ev (i := d) (by omega) (by omega)
      have hk := scale_eq (a := fV d) (K := (k26 : Int) * D) hQ (KD_pos hD) hv
      refine Call.mk (at_ev (by omega) (by omega)) (Call.mk p1 (Call.mk (sameD_ev h p2 hD hD2) ?_))
      rw [p3, Int.mul_assoc]
      refine Br.d (fun c2 => ?_) (fun c2 => ?_)
      · show true = decide _; symm; rw [decide_eq_true_iff]; exact .inl ⟨by omega, hk.1 c2⟩
      · show decide _ = decide _; rw [decide_eq_decide]
        exact ⟨fun h => .inr h, fun h => h.resolve_left (fun h => c2 (hk.2 h.2))⟩
    · show _ = _
      rw [decide_eq_decide]
      exact ⟨fun h => .inr h, fun h => h.resolve_left (fun h => c (by omega))⟩
  · subst hx
    unfold refR
    refine Br.d (fun c => ?_) (fun c => ?_)
    · rw [if_pos c]; exact Call.mk (at_ev (by omega) (by omega)) rfl
    · rw [if_neg c]
      refine Br.d (fun c2 => ?_) (fun c2 => ?_)
      · rw [if_pos (by omega)]
        exact Let.as (d + 1) w1 (Call.mk (at_ev (by omega) (by omega)) rfl)
      · rw [if_neg (by omega)]
        obtain ⟨t1, n1, f1, g1, z1, l1, b1, v1⟩ := grid_ev (i := d) (by omega) (by omega)
        obtain ⟨t2, n2, f2, g2, z2, l2, b2, v2⟩ := grid_ev (i := d + 1) (by omega) (by omega)
        obtain ⟨u, p, g, s1, s2, s3, s4, s5⟩ := sumZ_val z1 z2 l1 l2 b1 b2
        have hn : NOkS u p (g - 1) := ⟨s2, by omega, by omega⟩
        have hh := val_half (t := u) (n := p) (f := g) (by omega)
        have hT : 2 * (valZ u p (g - 1) * (D : Int)) = (fV d + fV (d + 1)) * ((k26 : Int) * D) := by rw [← Int.mul_assoc, hh, s5, v1, v2, ← Int.add_mul, Int.mul_assoc]
        have hv2 : (2 * valZ s m e) * Q = (2 * P) * ((k26 : Int) * D) := by rw [Int.mul_assoc, hv, Int.mul_assoc]
        have k1 := scale_le (a := fV d + fV (d + 1)) (K := (k26 : Int) * D) hQ (KD_pos hD) hv2
        have k2 := scale_eq (a := fV d + fV (d + 1)) (K := (k26 : Int) * D) hQ (KD_pos hD) hv2
        rw [← hT] at k1 k2
        refine Call.mk g1 (Let.as (d + 1) w1 (Call.mk g2 (Call.mk s1 (Let.as (g - 1) (wi (by show _ ≤ g - 1; omega) (by show g - 1 < _; omega)) (Call.mk (sameD_ev (t := u) (n := p) (f := g - 1) h hn hD hD2) ?_)))))
        refine Br.d (fun c3 => ?_) (fun c3 => ?_)
        · rw [if_pos (k2.1 (by omega))]
          have tm := tdm d
          refine Let.as (Int.tmod d 2) rfl (Br.e (fun c4 => ?_) (fun c4 => ?_))
          · rw [if_pos (by generalize Int.tdiv d 2 = q at *; omega)]
            exact Call.mk (at_ev (by omega) (by omega)) rfl
          · rw [if_neg (by generalize Int.tdiv d 2 = q at *; generalize Int.tmod d 2 = r at *; omega)]
            exact Let.as (d + 1) w1 (Call.mk (at_ev (by omega) (by omega)) rfl)
        · rw [if_neg (fun c4 => c3 (by have := k2.2 c4; omega))]
          refine Call.mk (belowD_ev (t := u) (n := p) (f := g - 1) h hn hD hD2) (Br.d (fun c4 => ?_) (fun c4 => ?_))
          · rw [if_pos (k1.1 (by omega))]
            exact Let.as (d + 1) w1 (Call.mk (at_ev (by omega) (by omega)) rfl)
          · rw [if_neg (fun c5 => c4 (by have := k1.2 c5; omega))]
            exact Call.mk (at_ev (by omega) (by omega)) rfl
/-- The reference's roundings of a number. -/
theorem refround_ev {N D : Int} (hN : Sim.inI N) (hD : 1 ≤ D) (iD : Sim.inI D) (dir : Int) :
    Ev_ref01_Rounded (exD (decide (N < 0)) N.natAbs 0 D.natAbs) dir (rd (N * (T74 : Int)) D.natAbs dir) := by
  have lN := abs_lt hN
  have lD := abs_lt iD
  have l2 := len64 (x := N.natAbs) (by simpa using lN)
  refine roundedD_ev (P := N * (T74 : Int)) (Q := D.natAbs) ⟨fun h => by rw [decide_eq_false]; omega, by omega, by decide⟩ (by omega) (by simpa using lD) (by omega) ?_ dir
  have e1 : valZ (decide (N < 0)) N.natAbs 0 = N * ((2 ^ 4000 : Nat) : Int) := by
    unfold valZ amtZ valS
    rw [show (0 + 4000 : Int).toNat = 4000 by decide]
    generalize 2 ^ 4000 = X
    by_cases h : N < 0
    · rw [decide_eq_true h, if_pos rfl, Int.natCast_mul, ← Int.neg_mul, show -(N.natAbs : Int) = N by omega]
    · rw [decide_eq_false h, if_neg (by decide), Int.natCast_mul, show (N.natAbs : Int) = N by omega]
  have e2 : ((2 ^ 4000 : Nat) : Int) = (T74 : Int) * (k26 : Int) := by
    have h : ∀ a b : Nat, 2 ^ (a + b) = 2 ^ a * 2 ^ b := fun a b => Nat.pow_add 2 a b
    rw [← Int.natCast_mul]
    unfold T74 k26
    rw [← h]
  rw [e1, e2]
  generalize (T74 : Int) = τ
  generalize (k26 : Int) = κ
  generalize ((D.natAbs : Nat) : Int) = δ
  simp only [Int.mul_assoc]
end Go.Sim.YtlglkgineclggaaDoor
