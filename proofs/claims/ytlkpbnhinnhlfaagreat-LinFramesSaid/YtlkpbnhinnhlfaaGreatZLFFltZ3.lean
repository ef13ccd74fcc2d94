/- What is proved: the reference's search for the place of an exact number, and its rounding, yield the word of the amount, rounded; its sums and products of floats. -/
import Derived.Test.YtlkpbnhinnhlfaaGreatZLFFltZ
import Derived.Test.YtlkpbnhinnhlfaaGreatZLFIvalP

namespace Go.Sim.YtlkpbnhinnhlfaaGreat
open Go.RowKit Go.Proofs Go.Proofs.Tryz
set_option exponentiation.threshold 40000
/-- An exact number, by 1. -/
def exZ (s : Bool) (m : Nat) (e : Int) : Gref01Exact := { Gref01Exact.zero with A := numZ s m e, B := numZ false 1 0 }
/-- What may be compared. -/
structure NOk (s : Bool) (m : Nat) (e : Int) : Prop where
  z : m = 0 → s = false
  l : (dig m).length ≤ 10000
  e : -3500 ≤ e ∧ e ≤ 3500
theorem product_one {t : Bool} {n : Nat} {f : Int} (h : NOk t n f) : ∃ t' n' f', Ev_ref01_Product (numZ t n f) (numZ false 1 0) (numZ t' n' f') ∧ NOk t' n' f' ∧ valZ t' n' f' = valZ t n f := by
  obtain ⟨h1, h2, h3⟩ := h
  have d1 := dig_lt53 (m := 1) (by decide)
  have := product_ev t false n 1 f 0 (by omega) (by omega) (by omega) (by omega)
  rw [Nat.mul_one, Int.add_zero, zero_numZ] at this
  by_cases h0 : n = 0
  · rw [if_pos h0] at this
    refine ⟨_, _, _, this, ⟨fun _ => rfl, by rw [dig_zero]; decide, by decide⟩, ?_⟩
    subst h0; rw [h1 rfl]; unfold valZ amtZ; simp
  · rw [if_neg h0] at this
    refine ⟨_, _, _, this, ?_⟩
    cases t
    · exact ⟨⟨h1, h2, h3⟩, rfl⟩
    · exact ⟨⟨fun h => absurd h h0, h2, h3⟩, rfl⟩
theorem NOk.order {s t : Bool} {m n : Nat} {e f : Int} (h : NOk s m e) (k : NOk t n f) : Ev_ref01_Order (numZ s m e) (numZ t n f) (sgnS (valZ s m e) (valZ t n f)) :=
  order_ev h.z k.z h.l k.l (by have := h.e; omega) (by have := k.e; omega)
theorem below_ev {s t : Bool} {m n : Nat} {e f : Int} (h : NOk s m e) (k : NOk t n f) : Ev_ref01_below (numZ t n f) (exZ s m e) (decide (valZ t n f ≤ valZ s m e)) := by
  obtain ⟨t', n', f', h1, h2, h3⟩ := product_one k
  refine walk_ref01_below ?_
  unfold W_ref01_below
  have h4 := NOk.order h2 h
  rw [h3] at h4
  refine Br.f rfl (Call.mk h1 (Call.mk h4 (Call.mk (sign_ev false 1 0) (Br.dF (by decide) ?_))))
  show decide _ = decide _
  rw [decide_eq_decide]
  have e1 := @sgnS_neg (valZ t n f) (valZ s m e)
  have e2 := @sgnS_zero (valZ t n f) (valZ s m e)
  omega
theorem same_ev {s t : Bool} {m n : Nat} {e f : Int} (h : NOk s m e) (k : NOk t n f) : Ev_ref01_same (numZ t n f) (exZ s m e) (decide (valZ t n f = valZ s m e)) := by
  obtain ⟨t', n', f', h1, h2, h3⟩ := product_one k
  refine walk_ref01_same ?_
  unfold W_ref01_same
  have h4 := NOk.order h2 h
  rw [h3] at h4
  refine Br.f rfl (Call.mk h1 (Call.mk h4 ?_))
  have e2 := @sgnS_zero (valZ t n f) (valZ s m e)
  by_cases hc : valZ t n f = valZ s m e
  · rw [e2.2 hc, decide_eq_true hc]; rfl
  · rw [decide_eq_false hc]; exact beq_false_of_ne (fun k => hc (e2.1 k))
theorem FlZ.ok {b : Nat} {s : Bool} {m : Nat} {e : Int} (h : FlZ b s m e) : NOk s m e :=
  ⟨h.z, by have := dig_lt53 h.l; omega, by have := h.be; omega⟩
/-! ### The place -/
theorem tdm (a : Int) : 2 * Int.tdiv a 2 + Int.tmod a 2 = a ∧ -1 ≤ Int.tmod a 2 ∧ Int.tmod a 2 ≤ 1 ∧ (0 ≤ a → 0 ≤ Int.tmod a 2) ∧ (a ≤ 0 → Int.tmod a 2 ≤ 0) := by
  have h1 := Int.mul_tdiv_add_tmod a 2
  have h2 := Int.tmod_lt_of_pos a (show (0 : Int) < 2 by decide)
  have h3 := Int.tmod_lt_of_pos (-a) (show (0 : Int) < 2 by decide)
  have h4 := Int.neg_tmod a 2
  have h5 : 0 ≤ a → 0 ≤ Int.tmod a 2 := fun h => Int.tmod_nonneg 2 h
  have h6 : 0 ≤ -a → 0 ≤ Int.tmod (-a) 2 := fun h => Int.tmod_nonneg 2 h
  rw [h4] at h3 h6
  generalize Int.tmod a 2 = r at *
  generalize Int.tdiv a 2 = q at *
  refine ⟨h1, by omega, by omega, h5, fun h => ?_⟩
  have := h6 (by omega); omega
theorem scale_le {a v P K : Int} {Q : Nat} (hQ : 0 < Q) (hK : 0 < K) (hv : v * Q = P * K) : a * K ≤ v ↔ a * Q ≤ P := by
  rw [← Int.mul_le_mul_right (show (0 : Int) < Q by omega), hv, Int.mul_right_comm]
  exact Int.mul_le_mul_right hK
theorem scale_eq {a v P K : Int} {Q : Nat} (hQ : 0 < Q) (hK : 0 < K) (hv : v * Q = P * K) : a * K = v ↔ a * Q = P := by
  rw [← mul_eq_iff (show (0 : Int) < Q by omega), hv, Int.mul_right_comm]
  exact mul_eq_iff hK
theorem K_pos : (0 : Int) < (k26 : Int) := by
  have h : 0 < k26 := Nat.two_pow_pos 2926
  generalize k26 = k at *
  omega
/-- A float's place, held against an exact number. -/
theorem place_ev {i : Int} (h1 : -9218868437227405312 < i) (h2 : i < 9218868437227405312) : ∃ t n f, Ev_ref01_Float (atI i) (numZ t n f) ∧ NOk t n f ∧ valZ t n f = fV i * (k26 : Int) := by
  obtain ⟨hl, hi⟩ := atI_lt (i := i) (by omega) (by omega)
  have hf := atI_F h1 h2
  obtain ⟨t, n, f, hz⟩ := flZ (atI i) hl hf
  have := float_ev hl hf
  rw [hz.eq] at this
  exact ⟨t, n, f, this, hz.ok, by rw [hz.v, hi]⟩
theorem down_ev {s : Bool} {m : Nat} {e : Int} (h : NOk s m e) {P : Int} {Q : Nat} (hQ : 0 < Q) (hv : valZ s m e * Q = P * (k26 : Int)) : ∃ d, Ev_ref01_Down (exZ s m e) d ∧ IsDn P Q d := by
  suffices hs : ∃ d, W_ref01_Down (exZ s m e) (fun r => r = d) ∧ IsDn P Q d by
    obtain ⟨d, h1, h2⟩ := hs; exact ⟨d, walk_ref01_Down h1, h2⟩
  obtain ⟨d, hd⟩ : ∃ d, IsDn P Q d := by
    refine ⟨dp P Q, (dp_range P Q).1, (dp_range P Q).2, ?_, ?_⟩
    · by_cases h : dp P Q = -9218868437227405312
      · exact .inl h
      · have := dp_range P Q
        exact .inr ((le_dp hQ (by omega) (by omega)).1 (Int.le_refl _))
    · by_cases h : dp P Q = 9218868437227405311
      · exact .inl h
      · have := dp_range P Q
        have h3 := le_dp (P := P) (Q := Q) (i := dp P Q + 1) hQ (by omega) (by omega)
        right; omega
  refine ⟨d, ?_, hd⟩
  have key : ∀ i : Int, -9218868437227405312 < i → i ≤ 9218868437227405311 → (fV i * Q ≤ P ↔ i ≤ d) := by
    intro i h1 h2
    constructor
    · intro hle
      by_cases hc : i ≤ d
      · exact hc
      · rcases hd.gt with hg | hg
        · omega
        · have := fV_mono (show d + 1 ≤ i by omega)
          have := Int.mul_le_mul_of_nonneg_right this (show (0 : Int) ≤ Q by omega)
          omega
    · intro hle
      rcases hd.le with hg | hg
      · omega
      · have := fV_mono hle
        have := Int.mul_le_mul_of_nonneg_right this (show (0 : Int) ≤ Q by omega)
        omega
  have d1 := hd.lo
  have d2 := hd.hi
  clear hd
  unfold W_ref01_Down
  refine ⟨fun lo hi => -9218868437227405312 ≤ lo ∧ lo ≤ d ∧ d ≤ hi ∧ hi ≤ 9218868437227405311, fun lo hi => (hi - lo).toNat, ⟨by omega, by omega, by omega, by omega⟩, ?_⟩
  rintro lo hi ⟨k1, k2, k3, k4⟩
  refine Br.d (fun hlt => ?_) (fun hge => by omega)
  have t1 := tdm lo
  have t2 := tdm hi
  generalize Int.tdiv lo 2 = a at *
  generalize Int.tmod lo 2 = r at *
  generalize Int.tdiv hi 2 = b at *
  generalize Int.tmod hi 2 = q at *
  have t3 := tdm (r + q + 1)
  refine Let.as a (wi (by omega) (by omega)) (Let.as b (wi (by omega) (by omega)) (Let.as (a + b) (wi (by omega) (by omega)) (Let.as r rfl (Let.as q rfl (Let.as (r + q) (wi (by omega) (by omega)) (Let.as (r + q + 1) (wi (by omega) (by omega)) ?_))))))
  generalize Int.tdiv (r + q + 1) 2 = c at *
  generalize Int.tmod (r + q + 1) 2 = u at *
  refine Let.as c (wi (by omega) (by omega)) (Let.as (a + b + c) (wi (by omega) (by omega)) ⟨fun x => lo < x ∧ x ≤ hi, ?_, fun x hx => ?_⟩)
  · exact Br.d (fun h => Let.as (lo + 1) (wi (by omega) (by omega)) ⟨by omega, by omega⟩) (fun h => ⟨by omega, by omega⟩)
  · obtain ⟨t, n, f, p1, p2, p3⟩ := place_ev (i := x) (by omega) (by omega)
    refine Call.mk (at_ev (by omega) (by omega)) (Call.mk p1 (Call.mk (below_ev h p2) ?_))
    rw [p3]
    have hk := key x (by omega) (by omega)
    rw [← scale_le (K := (k26 : Int)) hQ K_pos hv] at hk
    refine Br.d (fun hb => ?_) (fun hb => ?_)
    · have := hk.1 hb
      exact ⟨⟨by omega, by omega, by omega, by omega⟩, by show (hi - x).toNat < (hi - lo).toNat; omega⟩
    · have : ¬ x ≤ d := fun c => hb (hk.2 c)
      exact Let.as (x - 1) (wi (by omega) (by omega)) ⟨⟨by omega, by omega, by omega, by omega⟩, by show (x - 1 - lo).toNat < (hi - lo).toNat; omega⟩
/-! ### Sums -/
theorem valZ_left (s : Bool) (m : Nat) {e f : Int} (he : -4000 ≤ e) (hf : -4000 ≤ f) : valZ s m e = valS s (m * 2 ^ (e - f).toNat) * ((2 ^ (min e f + 4000).toNat : Nat) : Int) := by
  unfold valZ amtZ
  rw [← valS_mul, Nat.mul_assoc, ← Nat.pow_add]
  congr 3; omega
theorem valZ_right (t : Bool) (n : Nat) {e f : Int} (he : -4000 ≤ e) (hf : -4000 ≤ f) : valZ t n f = valS t (n * 2 ^ (f - e).toNat) * ((2 ^ (min e f + 4000).toNat : Nat) : Int) := by
  rw [valZ_left t n hf he, Int.min_comm]
theorem pow_lt53 {m k : Nat} (hm : m < 9007199254740992) (hk : k ≤ 4200) : m * 2 ^ k < 2 ^ 4300 := by
  have h2 := Nat.two_pow_pos k
  have h1 : m * 2 ^ k < 2 ^ 53 * 2 ^ k := Nat.mul_lt_mul_of_pos_right (by simpa using hm) h2
  rw [← Nat.pow_add] at h1
  exact Nat.lt_of_lt_of_le h1 (Nat.pow_le_pow_right (by decide) (by omega))
theorem dig_big {m : Nat} (h : m ≤ 2 ^ 4300 + 2 ^ 4300) : (dig m).length ≤ 1000 := by
  refine dig_length ?_
  rw [pow32, show 32 * 1000 = 4301 + 27699 from rfl, Nat.pow_add]
  have e1 : 2 ^ 4300 + 2 ^ 4300 = 2 ^ 4301 := by rw [Nat.pow_succ 2 4300, Nat.mul_two]
  rw [e1] at h
  have h2 : 1 < 2 ^ 27699 := Nat.one_lt_two_pow (by decide)
  have h3 := Nat.two_pow_pos 4301
  generalize 2 ^ 4301 = X at *
  generalize 2 ^ 27699 = Y at *
  calc m ≤ X * 1 := by omega
    _ < X * Y := Nat.mul_lt_mul_of_pos_left h2 h3
theorem sumZ_val {s t : Bool} {m n : Nat} {e f : Int} (hm0 : m = 0 → s = false) (hn0 : n = 0 → t = false) (hm : m < 9007199254740992) (hn : n < 9007199254740992) (he : -2000 ≤ e ∧ e ≤ 2000) (hf : -2000 ≤ f ∧ f ≤ 2000) :
    ∃ u p g, Ev_ref01_Sum (numZ s m e) (numZ t n f) (numZ u p g) ∧ (p = 0 → u = false) ∧ (dig p).length ≤ 1000 ∧ (-2000 ≤ g ∧ g ≤ 2000) ∧ valZ u p g = valZ s m e + valZ t n f := by
  have b1 := pow_lt53 (k := (e - f).toNat) hm (by omega)
  have b2 := pow_lt53 (k := (f - e).toNat) hn (by omega)
  have l1 := dig_lt53 hm
  have l2 := dig_lt53 hn
  have hev := sum_ev01 s t m n e f (by omega) (by omega) (by have := dig_big (m := m * 2 ^ (e - f).toNat) (by omega); omega) (by have := dig_big (m := n * 2 ^ (f - e).toNat) (by omega); omega) (by omega) (by omega)
  have v1 := valZ_left s m (e := e) (f := f) (by omega) (by omega)
  have v2 := valZ_right t n (e := e) (f := f) (by omega) (by omega)
  have z1 : valZ s 0 e = 0 := by unfold valZ valS amtZ; simp
  have z2 : valZ t 0 f = 0 := by unfold valZ valS amtZ; simp
  unfold sumZ at hev
  by_cases h1 : m = 0
  · rw [if_pos h1] at hev
    exact ⟨_, _, _, hev, hn0, by clear b1 b2; omega, hf, by subst h1; rw [z1, Int.zero_add]⟩
  · rw [if_neg h1] at hev
    by_cases h2 : n = 0
    · rw [if_pos h2] at hev
      exact ⟨_, _, _, hev, hm0, by clear b1 b2; omega, he, by subst h2; rw [z2, Int.add_zero]⟩
    · rw [if_neg h2] at hev
      have p1 : 0 < m * 2 ^ (e - f).toNat := Nat.mul_pos (by omega) (Nat.two_pow_pos _)
      have p2 : 0 < n * 2 ^ (f - e).toNat := Nat.mul_pos (by omega) (Nat.two_pow_pos _)
      rw [v1, v2, ← Int.add_mul]
      generalize m * 2 ^ (e - f).toNat = M at *
      generalize n * 2 ^ (f - e).toNat = N at *
      have vz : ∀ (u : Bool) (p : Nat), valZ u p (min e f) = valS u p * ((2 ^ (min e f + 4000).toNat : Nat) : Int) := fun u p => by
        unfold valZ amtZ; rw [valS_mul]
      by_cases h3 : s = t
      · rw [if_pos h3] at hev
        refine ⟨_, _, _, hev, fun h => by omega, dig_big (by omega), by omega, ?_⟩
        rw [vz]; subst h3; congr 1; unfold valS; split <;> omega
      · rw [if_neg h3] at hev
        by_cases h4 : M = N
        · rw [if_pos h4, zero_numZ] at hev
          refine ⟨_, _, _, hev, fun _ => rfl, by rw [dig_zero]; decide, by omega, ?_⟩
          have e1 : valS s M + valS t N = 0 := by subst h4; unfold valS; cases s <;> cases t <;> simp at h3 ⊢ <;> omega
          rw [e1, Int.zero_mul]; unfold valZ valS amtZ; simp
        · rw [if_neg h4] at hev
          by_cases h5 : N < M
          · rw [if_pos h5] at hev
            refine ⟨_, _, _, hev, fun h => by omega, dig_big (by omega), by omega, ?_⟩
            rw [vz]; congr 1; unfold valS; cases s <;> cases t <;> simp at h3 ⊢ <;> omega
          · rw [if_neg h5] at hev
            refine ⟨_, _, _, hev, fun h => by omega, dig_big (by omega), by omega, ?_⟩
            rw [vz]; congr 1; unfold valS; cases s <;> cases t <;> simp at h3 ⊢ <;> omega
/-! ### Rounding -/
theorem grid_ev {i : Int} (h1 : -9218868437227405312 ≤ i) (h2 : i ≤ 9218868437227405312) :
    ∃ t n f, Ev_ref01_grid i (numZ t n f) ∧ (n = 0 → t = false) ∧ n < 9007199254740992 ∧ (-2000 ≤ f ∧ f ≤ 2000) ∧ valZ t n f = fV i * (k26 : Int) := by
  have top : ∀ s, valS s (amtZ 1 1024) = valS s (2 ^ 2098) * (k26 : Int) := by
    intro s; rw [← valS_mul]; unfold amtZ; rw [Nat.one_mul, k26, ← Nat.pow_add]; rfl
  suffices hs : ∃ t n f, W_ref01_grid i (fun r => r = numZ t n f) ∧ (n = 0 → t = false) ∧ n < 9007199254740992 ∧ (-2000 ≤ f ∧ f ≤ 2000) ∧ valZ t n f = fV i * (k26 : Int) by
    obtain ⟨t, n, f, h1, h2⟩ := hs; exact ⟨t, n, f, walk_ref01_grid h1, h2⟩
  unfold W_ref01_grid
  by_cases c1 : i > 9218868437227405311
  · refine ⟨false, 1, 1024, Br.dT c1 (Call.mk (of_ev 1 (by decide)) rfl), by decide, by decide, by decide, ?_⟩
    have e : i = 9218868437227405312 := by omega
    subst e
    show valS false (amtZ 1 1024) = _
    rw [top]; congr 1
  · by_cases c2 : i < -9218868437227405311
    · refine ⟨true, 1, 1024, Br.dF c1 (Br.dT c2 (Call.mk (of_ev 1 (by decide)) rfl)), by decide, by decide, by decide, ?_⟩
      have e : i = -9218868437227405312 := by omega
      subst e
      show valS true (amtZ 1 1024) = _
      rw [top]; congr 1
    · obtain ⟨hl, hi⟩ := atI_lt (i := i) (by omega) (by omega)
      have hf := atI_F (i := i) (by omega) (by omega)
      obtain ⟨t, n, f, hz⟩ := flZ (atI i) hl hf
      have hfl := float_ev hl hf
      rw [hz.eq] at hfl
      exact ⟨t, n, f, Br.dF c1 (Br.dF c2 (Call.mk (at_ev (by omega) (by omega)) (Call.mk hfl rfl))), hz.z, hz.l, by have := hz.be; omega, by rw [hz.v, hi]⟩
theorem amt_half {n : Nat} {f : Int} (h : -3000 ≤ f) : 2 * amtZ n (f - 1) = amtZ n f := by
  unfold amtZ
  rw [show (f + 4000).toNat = (f - 1 + 4000).toNat + 1 by omega, Nat.pow_succ]
  generalize 2 ^ (f - 1 + 4000).toNat = X
  rw [Nat.mul_comm 2, Nat.mul_assoc]
theorem val_half {t : Bool} {n : Nat} {f : Int} (h : -3000 ≤ f) : 2 * valZ t n (f - 1) = valZ t n f := by
  have := amt_half (n := n) h
  unfold valZ valS
  split <;> omega
theorem rounded_ev {s : Bool} {m : Nat} {e : Int} (h : NOk s m e) {P : Int} {Q : Nat} (hQ : 0 < Q) (hv : valZ s m e * Q = P * (k26 : Int)) (dir : Int) : Ev_ref01_Rounded (exZ s m e) dir (rd P Q dir) := by
  obtain ⟨d, hd, hdn⟩ := down_ev h hQ hv
  have e0 : rd P Q dir = refR P Q d dir := (ref_rnd hQ hdn).symm
  rw [e0]
  have d1 := hdn.lo
  have d2 := hdn.hi
  have w1 : IntKind.i64.wrap (d + 1) = d + 1 := wi (by omega) (by omega)
  refine walk_ref01_Rounded ?_
  unfold W_ref01_Rounded
  refine Call.mk hd ⟨fun x => x = decide ((-9218868437227405311 ≤ d ∧ fV d * Q = P) ∨ dir < 0), ?_, fun x hx => ?_⟩
  · refine Br.d (fun c => ?_) (fun c => ?_)
    · obtain ⟨t, n, f, p1, p2, p3⟩ := place_ev (i := d) (by omega) (by omega)
      have hk := scale_eq (a := fV d) (K := (k26 : Int)) hQ K_pos hv
      refine Call.mk (at_ev (by omega) (by omega)) (Call.mk p1 (Call.mk (same_ev h p2) ?_))
      rw [p3]
      refine Br.d (fun c2 => ?_) (fun c2 => ?_)
      · show true = decide _; symm; rw [decide_eq_true_iff]; exact .inl ⟨by omega, hk.1 c2⟩
      · show decide _ = decide _; rw [decide_eq_decide]
        exact ⟨fun h => .inr h, fun h => h.resolve_left (fun h => c2 (hk.2 h.2))⟩
    · show _ = _
      rw [decide_eq_decide]
      exact ⟨fun h => .inr h, fun h => h.resolve_left (fun h => c (by omega))⟩
  · subst hx
    unfold refR
    refine Br.d (fun c => ?_) (fun c => ?_)
    · rw [if_pos c]; exact Call.mk (at_ev (by omega) (by omega)) rfl
    · rw [if_neg c]
      refine Br.d (fun c2 => ?_) (fun c2 => ?_)
      · rw [if_pos (by omega)]
        exact Let.as (d + 1) w1 (Call.mk (at_ev (by omega) (by omega)) rfl)
      · rw [if_neg (by omega)]
        obtain ⟨t1, n1, f1, g1, z1, l1, b1, v1⟩ := grid_ev (i := d) (by omega) (by omega)
        obtain ⟨t2, n2, f2, g2, z2, l2, b2, v2⟩ := grid_ev (i := d + 1) (by omega) (by omega)
        obtain ⟨u, p, g, s1, s2, s3, s4, s5⟩ := sumZ_val z1 z2 l1 l2 b1 b2
        have hn : NOk u p (g - 1) := ⟨s2, by omega, by omega⟩
        have hh := val_half (t := u) (n := p) (f := g) (by omega)
        have hT : 2 * valZ u p (g - 1) = (fV d + fV (d + 1)) * (k26 : Int) := by rw [hh, s5, v1, v2, Int.add_mul]
        have hv2 : (2 * valZ s m e) * Q = (2 * P) * (k26 : Int) := by rw [Int.mul_assoc, hv, Int.mul_assoc]
        have k1 := scale_le (a := fV d + fV (d + 1)) (K := (k26 : Int)) hQ K_pos hv2
        have k2 := scale_eq (a := fV d + fV (d + 1)) (K := (k26 : Int)) hQ K_pos hv2
        rw [← hT] at k1 k2
        refine Call.mk g1 (Let.as (d + 1) w1 (Call.mk g2 (Call.mk s1 (Let.as (g - 1) (wi (by show _ ≤ g - 1; omega) (by show g - 1 < _; omega)) (Call.mk (same_ev (t := u) (n := p) (f := g - 1) h hn) ?_)))))
        refine Br.d (fun c3 => ?_) (fun c3 => ?_)
        · rw [if_pos (k2.1 (by omega))]
          have tm := tdm d
          refine Let.as (Int.tmod d 2) rfl (Br.e (fun c4 => ?_) (fun c4 => ?_))
          · rw [if_pos (by generalize Int.tdiv d 2 = q at *; omega)]
            exact Call.mk (at_ev (by omega) (by omega)) rfl
          · rw [if_neg (by generalize Int.tdiv d 2 = q at *; generalize Int.tmod d 2 = r at *; omega)]
            exact Let.as (d + 1) w1 (Call.mk (at_ev (by omega) (by omega)) rfl)
        · rw [if_neg (fun c4 => c3 (by have := k2.2 c4; omega))]
          refine Call.mk (below_ev (t := u) (n := p) (f := g - 1) h hn) (Br.d (fun c4 => ?_) (fun c4 => ?_))
          · rw [if_pos (k1.1 (by omega))]
            exact Let.as (d + 1) w1 (Call.mk (at_ev (by omega) (by omega)) rfl)
          · rw [if_neg (fun c5 => c4 (by have := k1.2 c5; omega))]
            exact Call.mk (at_ev (by omega) (by omega)) rfl
theorem whole_ev {s : Bool} {m : Nat} {e : Int} (h : NOk s m e) {P : Int} {Q : Nat} (hQ : 0 < Q) (hv : valZ s m e * Q = P * (k26 : Int)) (dir : Int) : Ev_ref01_Whole (numZ s m e) dir (rd P Q dir) := by
  refine walk_ref01_Whole ?_
  unfold W_ref01_Whole
  exact Call.mk int_one (Call.mk (rounded_ev h hQ hv dir) rfl)
/-! ### Sums and products of finite floats -/
theorem refsum_ev {a b : Nat} (dir : Int) (ha : a < 18446744073709551616) (hb : b < 18446744073709551616) (fa : isF a) (fb : isF b) :
    ∃ x y z, Ev_ref01_Float a x ∧ Ev_ref01_Float b y ∧ Ev_ref01_Sum x y z ∧ Ev_ref01_Whole z dir (addB a b dir) := by
  obtain ⟨s, m, e, h1⟩ := flZ a ha fa
  obtain ⟨t, n, f, h2⟩ := flZ b hb fb
  have f1 := float_ev ha fa
  have f2 := float_ev hb fb
  rw [h1.eq] at f1
  rw [h2.eq] at f2
  obtain ⟨u, p, g, s1, s2, s3, s4, s5⟩ := sumZ_val (e := e) (f := f) h1.z h2.z h1.l h2.l (by have := h1.be; omega) (by have := h2.be; omega)
  refine ⟨_, _, _, f1, f2, s1, ?_⟩
  rw [addB_rd]
  refine whole_ev ⟨s2, by omega, by omega⟩ (by decide) ?_ dir
  rw [s5, h1.v, h2.v, ← Int.add_mul]; simp
theorem refprod_ev {a b : Nat} (dir : Int) (ha : a < 18446744073709551616) (hb : b < 18446744073709551616) (fa : isF a) (fb : isF b) :
    ∃ x y z, Ev_ref01_Float a x ∧ Ev_ref01_Float b y ∧ Ev_ref01_Product x y z ∧ Ev_ref01_Whole z dir (mulB a b dir) := by
  obtain ⟨s, m, e, h1⟩ := flZ a ha fa
  obtain ⟨t, n, f, h2⟩ := flZ b hb fb
  have f1 := float_ev ha fa
  have f2 := float_ev hb fb
  rw [h1.eq] at f1
  rw [h2.eq] at f2
  have e1 := h1.be
  have e2 := h2.be
  have l1 := dig_lt53 h1.l
  have l2 := dig_lt53 h2.l
  have hp := product_ev s t m n e f (by omega) (by omega) (by omega) (by omega)
  refine ⟨_, _, _, f1, f2, hp, ?_⟩
  rw [mulB_rd]
  have hQ : 0 < 2 ^ 1074 := Nat.two_pow_pos 1074
  by_cases h0 : m * n = 0
  · rw [if_pos h0, zero_numZ]
    refine whole_ev ⟨fun _ => rfl, by rw [dig_zero]; decide, by decide⟩ hQ ?_ dir
    have : fV (fI a) * fV (fI b) = 0 := by
      rw [h1.w, h2.w]
      rcases Nat.mul_eq_zero.1 h0 with h | h <;> subst h <;> simp [valS]
    rw [this]; unfold valZ valS amtZ; simp
  · rw [if_neg h0]
    refine whole_ev ⟨fun h => absurd h h0, ?_, by omega⟩ hQ ?_ dir
    · have : m * n < 9007199254740992 * 9007199254740992 := Nat.mul_lt_mul'' h1.l h2.l
      have := dig_length (n := m * n) (k := 4) (by omega)
      omega
    · have hval : valS (s != t) (m * n) = valS s m * valS t n := by
        unfold valS
        cases s <;> cases t <;> simp [Int.neg_mul, Int.mul_neg]
      unfold valZ amtZ
      rw [valS_mul, hval, h1.w, h2.w]
      have hx : ((2 ^ (e + f + 4000).toNat : Nat) : Int) * ((2 ^ 1074 : Nat) : Int) = ((2 ^ (e + 1074).toNat : Nat) : Int) * ((2 ^ (f + 1074).toNat : Nat) : Int) * (k26 : Int) := by
        rw [k26, ← Int.natCast_mul, ← Int.natCast_mul, ← Int.natCast_mul, ← Nat.pow_add, ← Nat.pow_add, ← Nat.pow_add]
        congr 2; omega
      rw [Int.mul_assoc, hx]
      generalize ((2 ^ (e + 1074).toNat : Nat) : Int) = X
      generalize ((2 ^ (f + 1074).toNat : Nat) : Int) = Y
      generalize (k26 : Int) = Z
      generalize valS s m = S
      generalize valS t n = T'
      ac_rfl
end Go.Sim.YtlkpbnhinnhlfaaGreat
