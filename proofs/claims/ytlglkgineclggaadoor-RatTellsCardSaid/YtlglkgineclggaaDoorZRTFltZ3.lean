/- What is proved: the reference's search for the place of an exact number, and its rounding, yield the word of the amount, rounded; its sums and products of floats. -/
import Derived.Test.YtlglkgineclggaaDoorZRTFltZ2
import Derived.Test.YtlglkgineclggaaDoorZRTFltO
import Derived.Test.YtlglkgineclggaaDoorZRTIvalM
namespace Go.Sim.YtlglkgineclggaaDoor
open Go.RowKit Go.Proofs Go.Proofs.Tryd
set_option exponentiation.threshold 40000
/-- What may be compared. -/
structure NOk (s : Bool) (m : Nat) (e : Int) : Prop where
  z : m = 0 → s = false
  l : (dig m).length ≤ 10000
  e : -3500 ≤ e ∧ e ≤ 3500
theorem NOk.order {s t : Bool} {m n : Nat} {e f : Int} (h : NOk s m e) (k : NOk t n f) : Ev_ref01_Order (numZ s m e) (numZ t n f) (sgnS (valZ s m e) (valZ t n f)) :=
  order_ev h.z k.z h.l k.l (by have := h.e; omega) (by have := k.e; omega)
theorem FlZ.ok {b : Nat} {s : Bool} {m : Nat} {e : Int} (h : FlZ b s m e) : NOk s m e :=
  ⟨h.z, by have := dig_lt53 h.l; omega, by have := h.be; omega⟩
/-! ### The place -/
theorem tdm (a : Int) : 2 * Int.tdiv a 2 + Int.tmod a 2 = a ∧ -1 ≤ Int.tmod a 2 ∧ Int.tmod a 2 ≤ 1 ∧ (0 ≤ a → 0 ≤ Int.tmod a 2) ∧ (a ≤ 0 → Int.tmod a 2 ≤ 0) := by
  have h1 := Int.mul_tdiv_add_tmod a 2
  have h2 := Int.tmod_lt_of_pos a (show (0 : Int) < 2 by decide)
  have h3 := Int.tmod_lt_of_pos (-a) (show (0 : Int) < 2 by decide)
  have h4 := Int.neg_tmod a 2
  have h5 : 0 ≤ a → 0 ≤ Int.tmod a 2 := fun h => Int.tmod_nonneg 2 h
  have h6 : 0 ≤ -a → 0 ≤ Int.tmod (-a) 2 := fun h => Int.tmod_nonneg 2 h
  rw [h4] at h3 h6
  generalize Int.tmod a 2 = r at *
  generalize Int.tdiv a 2 = q at *
  refine ⟨h1, by omega, by omega, h5, fun h => ?_⟩
  have := h6 (by omega); omega
theorem scale_le {a v P K : Int} {Q : Nat} (hQ : 0 < Q) (hK : 0 < K) (hv : v * Q = P * K) : a * K ≤ v ↔ a * Q ≤ P := by
  rw [← Int.mul_le_mul_right (show (0 : Int) < Q by omega), hv, Int.mul_right_comm]
  exact Int.mul_le_mul_right hK
theorem scale_eq {a v P K : Int} {Q : Nat} (hQ : 0 < Q) (hK : 0 < K) (hv : v * Q = P * K) : a * K = v ↔ a * Q = P := by
  rw [← mul_eq_iff (show (0 : Int) < Q by omega), hv, Int.mul_right_comm]
  exact mul_eq_iff hK
theorem K_pos : (0 : Int) < (k26 : Int) := by
  have h : 0 < k26 := Nat.two_pow_pos 2926
  generalize k26 = k at *
  omega
/-! ### Sums -/
theorem valZ_left (s : Bool) (m : Nat) {e f : Int} (he : -4000 ≤ e) (hf : -4000 ≤ f) : valZ s m e = valS s (m * 2 ^ (e - f).toNat) * ((2 ^ (min e f + 4000).toNat : Nat) : Int) := by
  unfold valZ amtZ
  rw [← valS_mul, Nat.mul_assoc, ← Nat.pow_add]
  congr 3; omega
theorem valZ_right (t : Bool) (n : Nat) {e f : Int} (he : -4000 ≤ e) (hf : -4000 ≤ f) : valZ t n f = valS t (n * 2 ^ (f - e).toNat) * ((2 ^ (min e f + 4000).toNat : Nat) : Int) := by
  rw [valZ_left t n hf he, Int.min_comm]
theorem pow_lt53 {m k : Nat} (hm : m < 9007199254740992) (hk : k ≤ 4200) : m * 2 ^ k < 2 ^ 4300 := by
  have h2 := Nat.two_pow_pos k
  have h1 : m * 2 ^ k < 2 ^ 53 * 2 ^ k := Nat.mul_lt_mul_of_pos_right (by simpa using hm) h2
  rw [← Nat.pow_add] at h1
  exact Nat.lt_of_lt_of_le h1 (Nat.pow_le_pow_right (by decide) (by omega))
theorem dig_big {m : Nat} (h : m ≤ 2 ^ 4300 + 2 ^ 4300) : (dig m).length ≤ 1000 := by
  refine dig_length ?_
  rw [pow32, show 32 * 1000 = 4301 + 27699 from rfl, Nat.pow_add]
  have e1 : 2 ^ 4300 + 2 ^ 4300 = 2 ^ 4301 := by rw [Nat.pow_succ 2 4300, Nat.mul_two]
  rw [e1] at h
  have h2 : 1 < 2 ^ 27699 := Nat.one_lt_two_pow (by decide)
  have h3 := Nat.two_pow_pos 4301
  generalize 2 ^ 4301 = X at *
  generalize 2 ^ 27699 = Y at *
  calc m ≤ X * 1 := by omega
    _ < X * Y := Nat.mul_lt_mul_of_pos_left h2 h3
theorem sumZ_val {s t : Bool} {m n : Nat} {e f : Int} (hm0 : m = 0 → s = false) (hn0 : n = 0 → t = false) (hm : m < 9007199254740992) (hn : n < 9007199254740992) (he : -2000 ≤ e ∧ e ≤ 2000) (hf : -2000 ≤ f ∧ f ≤ 2000) :
    ∃ u p g, Ev_ref01_Sum (numZ s m e) (numZ t n f) (numZ u p g) ∧ (p = 0 → u = false) ∧ (dig p).length ≤ 1000 ∧ (-2000 ≤ g ∧ g ≤ 2000) ∧ valZ u p g = valZ s m e + valZ t n f := by
  have b1 := pow_lt53 (k := (e - f).toNat) hm (by omega)
  have b2 := pow_lt53 (k := (f - e).toNat) hn (by omega)
  have l1 := dig_lt53 hm
  have l2 := dig_lt53 hn
  have hev := sum_ev01 s t m n e f (by omega) (by omega) (by have := dig_big (m := m * 2 ^ (e - f).toNat) (by omega); omega) (by have := dig_big (m := n * 2 ^ (f - e).toNat) (by omega); omega) (by omega) (by omega)
  have v1 := valZ_left s m (e := e) (f := f) (by omega) (by omega)
  have v2 := valZ_right t n (e := e) (f := f) (by omega) (by omega)
  have z1 : valZ s 0 e = 0 := by unfold valZ valS amtZ; simp
  have z2 : valZ t 0 f = 0 := by unfold valZ valS amtZ; simp
  unfold sumZ at hev
  by_cases h1 : m = 0
  · rw [if_pos h1] at hev
    exact ⟨_, _, _, hev, hn0, by clear b1 b2; omega, hf, by subst h1; rw [z1, Int.zero_add]⟩
  · rw [if_neg h1] at hev
    by_cases h2 : n = 0
    · rw [if_pos h2] at hev
      exact ⟨_, _, _, hev, hm0, by clear b1 b2; omega, he, by subst h2; rw [z2, Int.add_zero]⟩
    · rw [if_neg h2] at hev
      have p1 : 0 < m * 2 ^ (e - f).toNat := Nat.mul_pos (by omega) (Nat.two_pow_pos _)
      have p2 : 0 < n * 2 ^ (f - e).toNat := Nat.mul_pos (by omega) (Nat.two_pow_pos _)
      rw [v1, v2, ← Int.add_mul]
      generalize m * 2 ^ (e - f).toNat = M at *
      generalize n * 2 ^ (f - e).toNat = N at *
      have vz : ∀ (u : Bool) (p : Nat), valZ u p (min e f) = valS u p * ((2 ^ (min e f + 4000).toNat : Nat) : Int) := fun u p => by
        unfold valZ amtZ; rw [valS_mul]
      by_cases h3 : s = t
      · rw [if_pos h3] at hev
        refine ⟨_, _, _, hev, fun h => by omega, dig_big (by omega), by omega, ?_⟩
        rw [vz]; subst h3; congr 1; unfold valS; split <;> omega
      · rw [if_neg h3] at hev
        by_cases h4 : M = N
        · rw [if_pos h4, zero_numZ] at hev
          refine ⟨_, _, _, hev, fun _ => rfl, by rw [dig_zero]; decide, by omega, ?_⟩
          have e1 : valS s M + valS t N = 0 := by subst h4; unfold valS; cases s <;> cases t <;> simp at h3 ⊢ <;> omega
          rw [e1, Int.zero_mul]; unfold valZ valS amtZ; simp
        · rw [if_neg h4] at hev
          by_cases h5 : N < M
          · rw [if_pos h5] at hev
            refine ⟨_, _, _, hev, fun h => by omega, dig_big (by omega), by omega, ?_⟩
            rw [vz]; congr 1; unfold valS; cases s <;> cases t <;> simp at h3 ⊢ <;> omega
          · rw [if_neg h5] at hev
            refine ⟨_, _, _, hev, fun h => by omega, dig_big (by omega), by omega, ?_⟩
            rw [vz]; congr 1; unfold valS; cases s <;> cases t <;> simp at h3 ⊢ <;> omega
/-! ### Rounding -/
theorem grid_ev {i : Int} (h1 : -9218868437227405312 ≤ i) (h2 : i ≤ 9218868437227405312) :
    ∃ t n f, Ev_ref01_grid i (numZ t n f) ∧ (n = 0 → t = false) ∧ n < 9007199254740992 ∧ (-2000 ≤ f ∧ f ≤ 2000) ∧ valZ t n f = fV i * (k26 : Int) := by
  have top : ∀ s, valS s (amtZ 1 1024) = valS s (2 ^ 2098) * (k26 : Int) := by
    intro s; rw [← valS_mul]; unfold amtZ; rw [Nat.one_mul, k26, ← Nat.pow_add]; rfl
  suffices hs : ∃ t n f, W_ref01_grid i (fun r => r = numZ t n f) ∧ (n = 0 → t = false) ∧ n < 9007199254740992 ∧ (-2000 ≤ f ∧ f ≤ 2000) ∧ valZ t n f = fV i * (k26 : Int) by
    obtain ⟨t, n, f, h1, h2⟩ := hs; exact ⟨t, n, f, walk_ref01_grid h1, h2⟩
  unfold W_ref01_grid
  by_cases c1 : i > 9218868437227405311
  · refine ⟨false, 1, 1024, Br.dT c1 (Call.mk (of_ev 1 (by decide)) rfl), by decide, by decide, by decide, ?_⟩
    have e : i = 9218868437227405312 := by omega
    subst e
    show valS false (amtZ 1 1024) = _
    rw [top]; congr 1
  · by_cases c2 : i < -9218868437227405311
    · refine ⟨true, 1, 1024, Br.dF c1 (Br.dT c2 (Call.mk (of_ev 1 (by decide)) rfl)), by decide, by decide, by decide, ?_⟩
      have e : i = -9218868437227405312 := by omega
      subst e
      show valS true (amtZ 1 1024) = _
      rw [top]; congr 1
    · obtain ⟨hl, hi⟩ := atI_lt (i := i) (by omega) (by omega)
      have hf := atI_F (i := i) (by omega) (by omega)
      obtain ⟨t, n, f, hz⟩ := flZ (atI i) hl hf
      have hfl := float_ev hl hf
      rw [hz.eq] at hfl
      exact ⟨t, n, f, Br.dF c1 (Br.dF c2 (Call.mk (at_ev (by omega) (by omega)) (Call.mk hfl rfl))), hz.z, hz.l, by have := hz.be; omega, by rw [hz.v, hi]⟩
theorem amt_half {n : Nat} {f : Int} (h : -3000 ≤ f) : 2 * amtZ n (f - 1) = amtZ n f := by
  unfold amtZ
  rw [show (f + 4000).toNat = (f - 1 + 4000).toNat + 1 by omega, Nat.pow_succ]
  generalize 2 ^ (f - 1 + 4000).toNat = X
  rw [Nat.mul_comm 2, Nat.mul_assoc]
theorem val_half {t : Bool} {n : Nat} {f : Int} (h : -3000 ≤ f) : 2 * valZ t n (f - 1) = valZ t n f := by
  have := amt_half (n := n) h
  unfold valZ valS
  split <;> omega
/-! ### Sums and products of finite floats -/
end Go.Sim.YtlglkgineclggaaDoor
