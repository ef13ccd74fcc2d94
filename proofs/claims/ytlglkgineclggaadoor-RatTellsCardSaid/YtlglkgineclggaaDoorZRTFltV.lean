/- What is proved: 128 bits and an exponent, rounded: the word that the rounding of the exact amount is. -/
import Derived.Test.YtlglkgineclggaaDoorZRTFltW
namespace Go.Sim.YtlglkgineclggaaDoor
open Go.RowKit Go.Proofs Go.Proofs.Tryd
theorem pow_split {a b c : Nat} (h : a = b + c) : (2 : Nat) ^ a = 2 ^ b * 2 ^ c := by rw [h, Nat.pow_add]
theorem right_ev' (v : Gulpvalue) (hi lo n : Nat) (hh : v.hi_ = (hi : Int)) (hl : v.lo_ = (lo : Int)) (h1 : hi < 18446744073709551616) (h2 : lo < 18446744073709551616) (hn : n ≤ 1000000) :
    Ev_ulp_value_right v (n : Int) (((hi * 18446744073709551616 + lo) / 2 ^ n % 18446744073709551616 : Nat) : Int) := by
  refine walk_ulp_value_right ?_
  unfold W_ulp_value_right
  rw [hh, hl]
  refine Br.d (fun a => ?_) (fun a => Br.d (fun b => ?_) (fun b => Br.e (fun c => ?_) (fun c => ?_)))
  · have : (hi * 18446744073709551616 + lo) / 2 ^ n = 0 := by
      refine Nat.div_eq_of_lt (Nat.lt_of_lt_of_le (show _ < 2 ^ 128 by omega) (Nat.pow_le_pow_right (by omega) (by omega)))
    rw [this]; rfl
  · refine Let.as ((n - 64 : Nat) : Int) (by rw [wi (by omega) (by omega)]; omega) ⟨by omega, Let.as _ (shrN hi (n - 64) (by omega)) ?_⟩
    show _ = _
    rw [pow_split (show n = 64 + (n - 64) by omega), ← Nat.div_div_eq_div_mul]
    have e : (hi * 18446744073709551616 + lo) / 2 ^ 64 = hi := by omega
    rw [e, Nat.mod_eq_of_lt]
    exact Nat.lt_of_le_of_lt (Nat.div_le_self _ _) h1
  · have : n = 0 := by omega
    subst this
    show _ = _
    rw [Nat.pow_zero, Nat.div_one]; omega
  · refine ⟨by omega, Let.as _ (shrN lo n (by omega)) (Let.as ((64 - n : Nat) : Int) (by rw [wi (by omega) (by omega)]; omega) ⟨by omega, Let.as _ (shlN hi (64 - n) (by omega)) ?_⟩)⟩
    have hp : (18446744073709551616 : Nat) = 2 ^ (64 - n) * 2 ^ n := pow_split (a := 64) (by omega)
    have hp2 := Nat.two_pow_pos n
    have hc : lo / 2 ^ n < 2 ^ (64 - n) := by rw [Nat.div_lt_iff_lt_mul hp2, ← hp]; exact h2
    have e1 : hi * 2 ^ (64 - n) % 18446744073709551616 = hi % 2 ^ n * 2 ^ (64 - n) := by
      rw [hp, Nat.mul_comm (2 ^ (64 - n)) (2 ^ n), Nat.mul_mod_mul_right]
    have hx : hi % 2 ^ n * 2 ^ (64 - n) % 2 ^ (64 - n) = 0 := Nat.mul_mod_left _ _
    have hle : hi % 2 ^ n * 2 ^ (64 - n) + 2 ^ (64 - n) ≤ 18446744073709551616 := by
      have := Nat.mod_lt hi hp2
      rw [← Nat.succ_mul, hp, Nat.mul_comm (2 ^ (64 - n)) (2 ^ n)]
      exact Nat.mul_le_mul_right _ this
    rw [e1]
    refine Let.as _ (or_ok (s := 64 - n) hc hx (by omega) (by have := Nat.two_pow_pos (64 - n); omega)) ?_
    show _ = _
    have e2 : (hi * 18446744073709551616 + lo) / 2 ^ n = hi * 2 ^ (64 - n) + lo / 2 ^ n := by
      rw [hp, ← Nat.mul_assoc, Nat.mul_comm _ (2 ^ n), Nat.mul_add_div hp2]
    rw [e2]
    congr 1
    have hle2 : lo / 2 ^ n < 18446744073709551616 := by omega
    have hsum : hi % 2 ^ n * 2 ^ (64 - n) + lo / 2 ^ n < 18446744073709551616 := by omega
    rw [Nat.add_mod, e1, Nat.mod_eq_of_lt hle2, Nat.mod_eq_of_lt hsum, Nat.add_comm]
theorem even_ev (v : Gulpvalue) (hi lo n : Nat) (hh : v.hi_ = (hi : Int)) (hl : v.lo_ = (lo : Int)) (_h1 : hi < 18446744073709551616) (h2 : lo < 18446744073709551616) (h0 : 1 ≤ n) (hn : n ≤ 127) :
    Ev_ulp_value_even v (n : Int) (decide ((hi * 18446744073709551616 + lo) % 2 ^ n = 0)) := by
  refine walk_ulp_value_even ?_
  unfold W_ulp_value_even
  rw [hh, hl]
  have low : ∀ m : Nat, m ≤ 64 → (18446744073709551616 : Nat) = 2 ^ (64 - m) * 2 ^ m := fun m hm => pow_split (a := 64) (by omega)
  have shl0 : ∀ x m : Nat, m ≤ 64 → (x * 2 ^ (64 - m) % 18446744073709551616 = 0 ↔ x % 2 ^ m = 0) := by
    intro x m hm
    rw [low m hm, Nat.mul_comm (2 ^ (64 - m)) (2 ^ m), Nat.mul_mod_mul_right, Nat.mul_eq_zero]
    have := Nat.two_pow_pos (64 - m)
    omega
  refine Br.d (fun a => Br.e (fun b => Br.e (fun c => ?_) (fun c => ?_)) (fun b => ?_)) (fun a => ?_)
  · have : n = 64 := by omega
    subst this
    show _ = _
    rw [eq_comm, decide_eq_true_iff]; omega
  · refine Let.as ((128 - n : Nat) : Int) (by rw [wi (by omega) (by omega)]; omega) ⟨by omega, Let.as _ (shlN hi (128 - n) (by omega)) ?_⟩
    show _ = _
    have hlo : lo = 0 := by omega
    rw [show 128 - n = 64 - (n - 64) by omega]
    have e := shl0 hi (n - 64) (by omega)
    rw [hlo, Nat.add_zero, pow_split (show n = (n - 64) + 64 by omega), show (18446744073709551616 : Nat) = 2 ^ 64 by decide, Nat.mul_mod_mul_right]
    have e2 : (hi % 2 ^ (n - 64) * 2 ^ 64 = 0) ↔ hi * 2 ^ (64 - (n - 64)) % 18446744073709551616 = 0 := by
      rw [e, Nat.mul_eq_zero]; omega
    rw [show (2 : Nat) ^ 64 = 18446744073709551616 by decide] at e2 ⊢
    by_cases hz : hi * 2 ^ (64 - (n - 64)) % 18446744073709551616 = 0
    · rw [decide_eq_true (e2.2 hz), hz]; rfl
    · rw [decide_eq_false (fun h => hz (e2.1 h))]
      rw [beq_eq_false_iff_ne]; omega
  · show _ = _
    rw [eq_comm, decide_eq_false_iff_not]
    intro h
    have hd : 2 ^ 64 ∣ hi * 18446744073709551616 + lo := Nat.dvd_trans (Nat.pow_dvd_pow 2 (by omega)) (Nat.dvd_of_mod_eq_zero h)
    have := Nat.mod_eq_zero_of_dvd hd
    omega
  · refine Let.as ((64 - n : Nat) : Int) (by rw [wi (by omega) (by omega)]; omega) ⟨by omega, Let.as _ (shlN lo (64 - n) (by omega)) ?_⟩
    show _ = _
    have e := shl0 lo n (by omega)
    have e2 : (hi * 18446744073709551616 + lo) % 2 ^ n = lo % 2 ^ n := by
      rw [low n (by omega), ← Nat.mul_assoc, Nat.add_comm, Nat.add_mul_mod_self_right]
    rw [e2]
    by_cases hz : lo * 2 ^ (64 - n) % 18446744073709551616 = 0
    · rw [decide_eq_true (e.1 hz), hz]; rfl
    · rw [decide_eq_false (fun h => hz (e.2 h))]
      rw [beq_eq_false_iff_ne]; omega
/-- What is lost of a unit of 2 h, of which r is left over, and more. -/
def lostC (r h : Nat) (more : Bool) : Int := if h ≤ r then (if r = h ∧ more = false then 2 else 3) else if r = 0 ∧ more = false then 0 else 1
theorem and1 {x : Nat} (h : x < 18446744073709551616) : bits .and .u64 (x : Int) 1 = ((x % 2 : Nat) : Int) := by
  have hk : ∀ n : Int, 0 ≤ n → n < 2 ^ 64 → IntKind.u64.wrap n = n := fun n h0 h1 => wu h0 (by simpa using h1)
  have := bits_mask .u64 64 (by simp [IntKind.bits]) hk 1 (by omega) (x : Int) (by omega) (by simp; omega)
  rw [show ((2 : Int) ^ 1 - 1) = 1 from rfl] at this
  rw [this]; omega
theorem shifted_ev (v : Gulpvalue) (hi lo n : Nat) (hh : v.hi_ = (hi : Int)) (hl : v.lo_ = (lo : Int)) (h1 : hi < 18446744073709551616) (h2 : lo < 18446744073709551616) (h0 : 1 ≤ n) (hn : n ≤ 1000000)
    (hz : hi * 18446744073709551616 + lo ≠ 0 ∨ v.more_ = true) (hq : (hi * 18446744073709551616 + lo) / 2 ^ n < 18446744073709551616) :
    Ev_ulp_value_shifted v (n : Int) ((((hi * 18446744073709551616 + lo) / 2 ^ n : Nat) : Int), lostC ((hi * 18446744073709551616 + lo) % 2 ^ n) (2 ^ (n - 1)) v.more_) := by
  refine walk_ulp_value_shifted ?_
  unfold W_ulp_value_shifted
  rw [hh, hl]
  refine Br.d (fun a => ?_) (fun a => ?_)
  · have hN : hi * 18446744073709551616 + lo < 2 ^ 128 := by omega
    have hp : 2 ^ 128 ≤ 2 ^ (n - 1) := Nat.pow_le_pow_right (by omega) (by omega)
    have hp2 : 2 ^ (n - 1) ≤ 2 ^ n := Nat.pow_le_pow_right (by omega) (by omega)
    generalize 2 ^ (n - 1) = H at *
    rw [Nat.div_eq_of_lt (by omega), Nat.mod_eq_of_lt (by omega)]
    unfold lostC
    rw [if_neg (by omega), if_neg]
    · rfl
    · rintro ⟨k1, k2⟩; rcases hz with hz | hz
      · exact hz k1
      · rw [k2] at hz; cases hz
  · refine Call.mk (right_ev' _ hi lo n rfl rfl h1 h2 (by omega)) (Let.as ((n - 1 : Nat) : Int) (by rw [wi (by omega) (by omega)]; omega) (Call.mk (right_ev' _ hi lo (n - 1) rfl rfl h1 h2 (by omega)) ?_))
    generalize hN : hi * 18446744073709551616 + lo = N at *
    have hbit : N / 2 ^ (n - 1) % 18446744073709551616 % 2 = N / 2 ^ (n - 1) % 2 := by omega
    refine Let.as ((N / 2 ^ (n - 1) % 2 : Nat) : Int) (by rw [and1 (Nat.mod_lt _ (by decide)), hbit]) ?_
    rw [Nat.mod_eq_of_lt hq]
    -- what is left over
    have hpow : 2 ^ n = 2 ^ (n - 1) * 2 := by rw [← Nat.pow_succ]; congr 1; omega
    have hH := Nat.two_pow_pos (n - 1)
    have hr : N % 2 ^ n = N % 2 ^ (n - 1) + 2 ^ (n - 1) * (N / 2 ^ (n - 1) % 2) := by rw [hpow, Nat.mod_mul]
    have hl := Nat.mod_lt N hH
    refine ⟨fun x => x = (v.more_ || decide (N % 2 ^ (n - 1) ≠ 0)), ?_, fun x hx => ?_⟩
    · cases hm : v.more_ with
      | true => exact Br.t rfl (by simp)
      | false =>
        refine Br.f rfl (Br.d (fun b => ?_) (fun b => ?_))
        · refine Let.as ((n - 1 : Nat) : Int) (by rw [wi (by omega) (by omega)]; omega) (Call.mk (even_ev _ hi lo (n - 1) rfl rfl h1 h2 (by omega) (by omega)) ?_)
          rw [hN]; simp
        · have : n = 1 := by omega
          subst this
          simp [Nat.mod_one]
    · subst hx
      have b2 : N / 2 ^ (n - 1) % 2 = 0 ∨ N / 2 ^ (n - 1) % 2 = 1 := by omega
      generalize hrr : N % 2 ^ n = R at *
      generalize N % 2 ^ (n - 1) = R' at *
      generalize 2 ^ (n - 1) = H at *
      rcases b2 with b2 | b2
      · rw [b2] at hr ⊢
        refine ⟨fun x => x = false, Br.eF (by omega) rfl, fun x hx => ?_⟩
        subst hx
        refine Br.f rfl (Br.eF (by omega) ?_)
        unfold lostC
        rw [if_neg (by omega)]
        cases hm : v.more_ with
        | true => exact Br.t rfl (by rw [if_neg (by simp)])
        | false =>
          by_cases h3 : R = 0
          · rw [if_pos ⟨h3, rfl⟩]; exact Br.f (by simp; omega) rfl
          · rw [if_neg (fun h => h3 h.1)]; exact Br.t (by simp; omega) rfl
      · rw [b2] at hr ⊢
        refine ⟨fun x => x = (v.more_ || decide (R' ≠ 0)), Br.eT rfl rfl, fun x hx => ?_⟩
        subst hx
        unfold lostC
        rw [if_pos (by omega)]
        cases hm : v.more_ with
        | true => exact Br.t rfl (by rw [if_neg (by simp)])
        | false =>
          by_cases h3 : R = H
          · rw [if_pos ⟨h3, rfl⟩]; exact Br.f (by simp; omega) (Br.eT rfl rfl)
          · rw [if_neg (fun h => h3 h.1)]; exact Br.t (by simp; omega) rfl
theorem len_ev (v : Gulpvalue) (hi lo : Nat) (hh : v.hi_ = (hi : Int)) (hl : v.lo_ = (lo : Int)) (h1 : hi < 18446744073709551616) (h2 : lo < 18446744073709551616) :
    Ev_ulp_value_len v ((blen (hi * 18446744073709551616 + lo) : Nat) : Int) := by
  refine walk_ulp_value_len ?_
  unfold W_ulp_value_len
  rw [hh, hl]
  refine Br.d (fun a => Call.mk (len64_ev hi h1) ?_) (fun a => Call.mk (len64_ev lo h2) ?_)
  · have hb := (blen_le hi 64).2 (by simpa using h1)
    have := blen_shift (a := hi * 18446744073709551616 + lo) (k := 64) (by simp only [Nat.reducePow]; omega)
    have e : (hi * 18446744073709551616 + lo) / 2 ^ 64 = hi := by omega
    rw [e] at this
    exact Let.as _ (wi (by omega) (by omega)) (by omega)
  · have : hi = 0 := by omega
    subst this
    show _ = _
    rw [Nat.zero_mul, Nat.zero_add]
end Go.Sim.YtlglkgineclggaaDoor
