/- What is proved: laws of loops that count up, in the words of the printed statements. -/
import Derived.Test.YtlkpbnhinnhlfaaGreatZLFSimE
import Derived.Test.YtlkpbnhinnhlfaaGreatZLFBig
import Derived.Laws.Strings
import Derived.Test.YtlkpbnhinnhlfaaGreatZLFWF1
import Derived.Test.YtlkpbnhinnhlfaaGreatZLFExtF
import Derived.Test.YtlkpbnhinnhlfaaGreatZLFFltR

namespace Go.Sim
open Go.RowKit
theorem wi1 {i : Nat} (h : i + 1 ≤ 9223372036854775807) : IntKind.i64.wrap ((i : Int) + 1) = ((i + 1 : Nat) : Int) := by
  rw [wi (by omega) (by omega)]; omega
/-- A loop that counts from 0 to 'n'. -/
theorem Loop1.up {b : Int → (Int → Prop) → Prop} (n : Nat) (P : Nat → Prop) (h0 : P 0) (st : ∀ (i : Nat) (k : Int → Prop), i ≤ n → P i → (i + 1 ≤ n → P (i + 1) → k ((i + 1 : Nat) : Int)) → b (i : Int) k) : Loop1 (0 : Int) b := by
  refine ⟨fun z => ∃ j : Nat, z = (j : Int) ∧ j ≤ n ∧ P j, fun z => n - z.toNat, ⟨0, rfl, Nat.zero_le _, h0⟩, ?_⟩
  rintro _ ⟨j, rfl, hj, hP⟩
  refine st j _ hj hP fun h1 h2 => ⟨⟨j + 1, rfl, h1, h2⟩, ?_⟩
  simp only [Int.toNat_natCast]; omega
theorem Loop2.up {α : Type} {s0 : α} {b : α → Int → (α → Int → Prop) → Prop} (n : Nat) (P : Nat → α → Prop) (h0 : P 0 s0) (st : ∀ (i : Nat) (s : α) (k : α → Int → Prop), i ≤ n → P i s → (∀ s', i + 1 ≤ n → P (i + 1) s' → k s' ((i + 1 : Nat) : Int)) → b s (i : Int) k) : Loop2 s0 (0 : Int) b := by
  refine ⟨fun s z => ∃ j : Nat, z = (j : Int) ∧ j ≤ n ∧ P j s, fun _ z => n - z.toNat, ⟨0, rfl, Nat.zero_le _, h0⟩, ?_⟩
  rintro s _ ⟨j, rfl, hj, hP⟩
  refine st j s _ hj hP fun s' h1 h2 => ⟨⟨j + 1, rfl, h1, h2⟩, ?_⟩
  simp only [Int.toNat_natCast]; omega
/-- What stands at a counted place. -/
theorem At.nat {α : Type} {xs : List α} {i : Nat} {k : α → Prop} (h : i < xs.length) (hk : ∀ x, xs[i]? = some x → k x) : At xs (i : Int) k :=
  ⟨by omega, xs[i], by rw [Int.toNat_natCast]; exact List.getElem?_eq_getElem h, hk _ (List.getElem?_eq_getElem h)⟩
end Go.Sim

/- What is proved: what the functions of package math, and the taking apart of floats, compute. -/
namespace Go.Sim.YtlkpbnhinnhlfaaGreat
open Go.RowKit Go.Proofs Go.Proofs.Tryz
theorem okF {b : Nat} : okFlt b ↔ b < 18446744073709551616 := by
  unfold okFlt
  simp [Lit.wf]
theorem fmt64 : FloatKind.f64.format = Ieee.double := rfl
/-- Bits taken away. -/
theorem andNot_top {b : Nat} (h : b < 18446744073709551616) : bits .andNot .u64 (b : Int) 9223372036854775808 = ((rungB b : Nat) : Int) := by
  unfold bits
  simp only []
  rw [show IntKind.u64.bits = 64 from rfl]
  have e1 : (BitVec.ofInt 64 (b : Int)) = BitVec.ofNat 64 b := by rw [BitVec.ofInt_natCast]
  have e2 : (BitVec.ofInt 64 (9223372036854775808 : Int)) = 9223372036854775808#64 := by decide
  rw [e1, e2]
  have e3 : ((BitVec.ofNat 64 b) &&& ~~~(9223372036854775808#64)).toNat = b % 2 ^ 63 := by
    rw [show ~~~(9223372036854775808#64) = 9223372036854775807#64 from by decide, BitVec.toNat_and, BitVec.toNat_ofNat, BitVec.toNat_ofNat, Nat.mod_eq_of_lt (by omega), show 9223372036854775807 % 2 ^ 64 = 2 ^ 63 - 1 by decide, Nat.and_two_pow_sub_one_eq_mod]
  rw [e3, wu (by omega) (by omega)]
  unfold rungB
  split <;> omega
theorem abs_ev {b : Nat} (h : b < 18446744073709551616) : Ev_math_Abs b (rungB b) := by
  refine walk_math_Abs ?_
  unfold W_math_Abs
  exact Call.mk (float64bits_ev b) (Let.as _ (andNot_top h) (Call.mk (float64frombits_ev _) rfl))
theorem isNaN_ev {b : Nat} (h : b < 18446744073709551616) : Ev_math_IsNaN b (!decide (isN b)) := by
  refine walk_math_IsNaN ?_
  unfold W_math_IsNaN
  simp only [fmt64, bne, order_eqv h h]
  congr 1
  simp
theorem fI_small {r : Nat} (h : r < 9223372036854775808) : fI r = r := by unfold fI; rw [if_pos h]
theorem rung_lt {b : Nat} (h : b < 18446744073709551616) : rungB b < 9223372036854775808 := by unfold rungB; split <;> omega
theorem isInf0_ev {b : Nat} (h : b < 18446744073709551616) : Ev_math_IsInf b 0 (decide (rungB b = 9218868437227405312)) := by
  refine walk_math_IsInf ?_
  unfold W_math_IsInf
  have hr := rung_lt h
  refine Br.eT rfl (Call.mk (abs_ev h) ?_)
  show _ = _
  simp only [fmt64, order_gt (show rungB b < 18446744073709551616 by omega) (show 9218868437227405311 < 18446744073709551616 by decide)]
  rw [decide_eq_decide]
  unfold isN
  rw [fI_small hr, fI_small (show 9218868437227405311 < 9223372036854775808 by decide)]
  omega
theorem inf1_ev : Ev_math_Inf 1 9218868437227405312 := by
  refine walk_math_Inf ?_
  unfold W_math_Inf
  exact ⟨fun x => x = 9218868437227405312, Br.dT (by decide) rfl, fun x hx => by subst hx; exact Call.mk (float64frombits_ev 9218868437227405312) rfl⟩
theorem infm_ev : Ev_math_Inf (-1) 18442240474082181120 := by
  refine walk_math_Inf ?_
  unfold W_math_Inf
  exact ⟨fun x => x = 18442240474082181120, Br.dF (by decide) rfl, fun x hx => by subst hx; exact Call.mk (float64frombits_ev 18442240474082181120) rfl⟩
/-! ### Floats taken apart -/
def sP (b : Nat) : Nat := rungB b / 4503599627370496 - 1
def qP (b : Nat) : Nat := rungB b - sP b * 4503599627370496
theorem fv_qs (b : Nat) : fv (rungB b) = qP b * 2 ^ sP b := by
  obtain ⟨s, q, h1, h2, h3, h4⟩ := rung_split (rungB b)
  have e1 : sP b = s := h4.symm
  have e2 : qP b = q := by unfold qP; rw [e1, h1]; omega
  rw [e1, e2, h1]; exact fv_mk (by omega) h3
theorem qP_lt (b : Nat) : qP b < 9007199254740992 := by unfold qP sP; omega
theorem qP_ge (b : Nat) : 4503599627370496 ≤ qP b ∨ sP b = 0 := by unfold qP sP; omega
/-- What a finite float is taken apart to. -/
def partsB (b : Nat) : GParts := if rungB b = 0 then GParts.zero else ⟨negB b, (qP b : Int), (sP b : Int) - 1074⟩
theorem isF_rung {b : Nat} : isF b ↔ rungB b < 9218868437227405312 := by
  have := rung_abs b
  unfold isF; omega
theorem isN_rung {b : Nat} : isN b ↔ rungB b ≤ 9218868437227405312 := by
  have := rung_abs b
  unfold isN; omega
theorem lt_zero {b : Nat} (hb : b < 18446744073709551616) : (FloatKind.f64.format.order b 0 == some .lt) = decide (isN b ∧ fI b < 0) := by
  rw [fmt64, order_lt hb (by decide), decide_eq_decide]
  have e : fI 0 = 0 := rfl
  have : isN 0 := by decide
  rw [e]
  exact ⟨fun h => ⟨h.1, h.2.2⟩, fun h => ⟨h.1, this, h.2⟩⟩
theorem eq_zero {b : Nat} (hb : b < 18446744073709551616) : (FloatKind.f64.format.order b 0 == some .eq) = decide (rungB b = 0) := by
  have e : fI 0 = 0 := rfl
  have h0 : isN 0 := by decide
  have hr := rung_abs b
  rw [fmt64, order_eqv hb (by decide), decide_eq_decide, e, isN_rung]
  exact ⟨fun h => by omega, fun h => ⟨by omega, h0, by omega⟩⟩
theorem split_ev {b : Nat} (hb : b < 18446744073709551616) : Ev_ulp_Split b (if isF b then (partsB b, true) else (GParts.zero, false)) := by
  refine walk_ulp_Split ?_
  unfold W_ulp_Split
  have hr := rung_lt hb
  by_cases hn : isN b
  · refine Call.mk (isNaN_ev hb) (Br.f (by simp [hn]) (Call.mk (isInf0_ev hb) ?_))
    by_cases hf : isF b
    · have hr2 := isF_rung.1 hf
      rw [if_pos hf]
      refine Br.dF (by omega) (Call.mk (float64bits_ev b) ?_)
      refine Let.as ((b % 4503599627370496 * 4096 : Nat) : Int) (by rw [show (b : Int) * 2 ^ 12 = ((b * 4096 : Nat) : Int) by omega, wuN]; omega) ?_
      refine Let.as ((b % 4503599627370496 : Nat) : Int) (by rw [shrC]; congr 1; omega) ?_
      refine Let.as ((b % 9223372036854775808 * 2 : Nat) : Int) (by rw [show (b : Int) * 2 ^ 1 = ((b * 2 : Nat) : Int) by omega, wuN]; omega) ?_
      refine Let.as ((b % 9223372036854775808 / 4503599627370496 : Nat) : Int) (by rw [shrC]; congr 1; omega) ?_
      refine Let.as ((b % 9223372036854775808 / 4503599627370496 : Nat) : Int) (wi (by omega) (by omega)) ?_
      have hm : b % 9223372036854775808 = rungB b := by unfold rungB; split <;> omega
      have hm2 : b % 4503599627370496 = rungB b % 4503599627370496 := by omega
      rw [hm, hm2]
      by_cases h0 : rungB b = 0
      · refine ⟨fun _ _ => False, ⟨fun x => x = true, Br.eT (by rw [h0]; rfl) (by rw [h0]; rfl), fun x hx => ?_⟩, fun _ _ h => h.elim⟩
        subst hx
        refine Br.t rfl ?_
        unfold partsB
        rw [if_pos h0]
      · refine ⟨fun m e => m = (qP b : Int) ∧ e = (sP b : Int) + 1, ⟨fun x => x = false, ?_, fun x hx => ?_⟩, fun m e h => ?_⟩
        · by_cases h1 : rungB b % 4503599627370496 = 0
          · exact Br.eT (by omega) (by simp; omega)
          · exact Br.eF (by omega) rfl
        · subst hx
          refine Br.f rfl ?_
          by_cases h1 : rungB b / 4503599627370496 = 0
          · exact Br.eT (by omega) ⟨by unfold qP sP; omega, by unfold sP; omega⟩
          · refine Br.eF (by omega) (Let.as _ (or_ok (s := 52) (x := 4503599627370496) (by simp only [Nat.reducePow]; omega) (by decide) (by decide) (by decide)) ⟨by unfold qP sP; omega, by unfold sP; omega⟩)
        · obtain ⟨rfl, rfl⟩ := h
          have hs : sP b < 2048 := by unfold sP; omega
          refine Let.as ((sP b : Int) - 1073) (by rw [wi (by omega) (by omega)]; omega) (Let.as ((sP b : Int) - 1074) (by rw [wi (by omega) (by omega)]; omega) ?_)
          unfold partsB
          rw [if_neg h0, lt_zero hb]
          have : decide (isN b ∧ fI b < 0) = negB b := by
            have e := fI_eq b
            cases hn' : negB b with
            | true => rw [hn', if_pos rfl] at e; simp; exact ⟨hn, by omega⟩
            | false => rw [hn', if_neg (by decide)] at e; simp; intro _; omega
          rw [this]
    · have hr2 : ¬ rungB b < 9218868437227405312 := fun h => hf (isF_rung.2 h)
      have hr3 := isN_rung.1 hn
      rw [if_neg hf]
      exact Br.dT (by omega) rfl
  · have hf : ¬ isF b := fun h => hn h.n
    rw [if_neg hf]
    exact Call.mk (isNaN_ev hb) (Br.t (by simp [hn]) rfl)
theorem both_ev {a b : Nat} (ha : a < 18446744073709551616) (hb : b < 18446744073709551616) :
    Ev_ulp_both a b ((if isF a then partsB a else GParts.zero), (if isF b then partsB b else GParts.zero), decide (isF a ∧ isF b)) := by
  refine walk_ulp_both ?_
  unfold W_ulp_both
  refine Call.mk (split_ev ha) (Call.mk (split_ev hb) ?_)
  by_cases h1 : isF a
  · by_cases h2 : isF b
    · exact Br.t (by simp [h1]) (by simp [h1, h2])
    · exact Br.t (by simp [h1]) (by simp [h1, h2])
  · refine Br.f (by simp [h1]) ?_
    by_cases h2 : isF b <;> simp [h1, h2]
end Go.Sim.YtlkpbnhinnhlfaaGreat

/- What is proved: 128 bits and an exponent, rounded: the word that the rounding of the exact amount is. -/
namespace Go.Sim.YtlkpbnhinnhlfaaGreat
open Go.RowKit Go.Proofs Go.Proofs.Tryz
theorem pow_split {a b c : Nat} (h : a = b + c) : (2 : Nat) ^ a = 2 ^ b * 2 ^ c := by rw [h, Nat.pow_add]
theorem right_ev' (v : Gulpvalue) (hi lo n : Nat) (hh : v.hi_ = (hi : Int)) (hl : v.lo_ = (lo : Int)) (h1 : hi < 18446744073709551616) (h2 : lo < 18446744073709551616) (hn : n ≤ 1000000) :
    Ev_ulp_value_right v (n : Int) (((hi * 18446744073709551616 + lo) / 2 ^ n % 18446744073709551616 : Nat) : Int) := by
  refine walk_ulp_value_right ?_
  unfold W_ulp_value_right
  rw [hh, hl]
  refine Br.d (fun a => ?_) (fun a => Br.d (fun b => ?_) (fun b => Br.e (fun c => ?_) (fun c => ?_)))
  · have : (hi * 18446744073709551616 + lo) / 2 ^ n = 0 := by
      refine Nat.div_eq_of_lt (Nat.lt_of_lt_of_le (show _ < 2 ^ 128 by omega) (Nat.pow_le_pow_right (by omega) (by omega)))
    rw [this]; rfl
  · refine Let.as ((n - 64 : Nat) : Int) (by rw [wi (by omega) (by omega)]; omega) ⟨by omega, Let.as _ (shrN hi (n - 64) (by omega)) ?_⟩
    show _ = _
    rw [pow_split (show n = 64 + (n - 64) by omega), ← Nat.div_div_eq_div_mul]
    have e : (hi * 18446744073709551616 + lo) / 2 ^ 64 = hi := by omega
    rw [e, Nat.mod_eq_of_lt]
    exact Nat.lt_of_le_of_lt (Nat.div_le_self _ _) h1
  · have : n = 0 := by omega
    subst this
    show _ = _
    rw [Nat.pow_zero, Nat.div_one]; omega
  · refine ⟨by omega, Let.as _ (shrN lo n (by omega)) (Let.as ((64 - n : Nat) : Int) (by rw [wi (by omega) (by omega)]; omega) ⟨by omega, Let.as _ (shlN hi (64 - n) (by omega)) ?_⟩)⟩
    have hp : (18446744073709551616 : Nat) = 2 ^ (64 - n) * 2 ^ n := pow_split (a := 64) (by omega)
    have hp2 := Nat.two_pow_pos n
    have hc : lo / 2 ^ n < 2 ^ (64 - n) := by rw [Nat.div_lt_iff_lt_mul hp2, ← hp]; exact h2
    have e1 : hi * 2 ^ (64 - n) % 18446744073709551616 = hi % 2 ^ n * 2 ^ (64 - n) := by
      rw [hp, Nat.mul_comm (2 ^ (64 - n)) (2 ^ n), Nat.mul_mod_mul_right]
    have hx : hi % 2 ^ n * 2 ^ (64 - n) % 2 ^ (64 - n) = 0 := Nat.mul_mod_left _ _
    have hle : hi % 2 ^ n * 2 ^ (64 - n) + 2 ^ (64 - n) ≤ 18446744073709551616 := by
      have := Nat.mod_lt hi hp2
      rw [← Nat.succ_mul, hp, Nat.mul_comm (2 ^ (64 - n)) (2 ^ n)]
      exact Nat.mul_le_mul_right _ this
    rw [e1]
    refine Let.as _ (or_ok (s := 64 - n) hc hx (by omega) (by have := Nat.two_pow_pos (64 - n); omega)) ?_
    show _ = _
    have e2 : (hi * 18446744073709551616 + lo) / 2 ^ n = hi * 2 ^ (64 - n) + lo / 2 ^ n := by
      rw [hp, ← Nat.mul_assoc, Nat.mul_comm _ (2 ^ n), Nat.mul_add_div hp2]
    rw [e2]
    congr 1
    have hle2 : lo / 2 ^ n < 18446744073709551616 := by omega
    have hsum : hi % 2 ^ n * 2 ^ (64 - n) + lo / 2 ^ n < 18446744073709551616 := by omega
    rw [Nat.add_mod, e1, Nat.mod_eq_of_lt hle2, Nat.mod_eq_of_lt hsum, Nat.add_comm]
theorem even_ev (v : Gulpvalue) (hi lo n : Nat) (hh : v.hi_ = (hi : Int)) (hl : v.lo_ = (lo : Int)) (_h1 : hi < 18446744073709551616) (h2 : lo < 18446744073709551616) (h0 : 1 ≤ n) (hn : n ≤ 127) :
    Ev_ulp_value_even v (n : Int) (decide ((hi * 18446744073709551616 + lo) % 2 ^ n = 0)) := by
  refine walk_ulp_value_even ?_
  unfold W_ulp_value_even
  rw [hh, hl]
  have low : ∀ m : Nat, m ≤ 64 → (18446744073709551616 : Nat) = 2 ^ (64 - m) * 2 ^ m := fun m hm => pow_split (a := 64) (by omega)
  have shl0 : ∀ x m : Nat, m ≤ 64 → (x * 2 ^ (64 - m) % 18446744073709551616 = 0 ↔ x % 2 ^ m = 0) := by
    intro x m hm
    rw [low m hm, Nat.mul_comm (2 ^ (64 - m)) (2 ^ m), Nat.mul_mod_mul_right, Nat.mul_eq_zero]
    have := Nat.two_pow_pos (64 - m)
    omega
  refine Br.d (fun a => Br.e (fun b => Br.e (fun c => ?_) (fun c => ?_)) (fun b => ?_)) (fun a => ?_)
  · have : n = 64 := by omega
    subst this
    show _ = _
    rw [eq_comm, decide_eq_true_iff]; omega
  · refine Let.as ((128 - n : Nat) : Int) (by rw [wi (by omega) (by omega)]; omega) ⟨by omega, Let.as _ (shlN hi (128 - n) (by omega)) ?_⟩
    show _ = _
    have hlo : lo = 0 := by omega
    rw [show 128 - n = 64 - (n - 64) by omega]
    have e := shl0 hi (n - 64) (by omega)
    rw [hlo, Nat.add_zero, pow_split (show n = (n - 64) + 64 by omega), show (18446744073709551616 : Nat) = 2 ^ 64 by decide, Nat.mul_mod_mul_right]
    have e2 : (hi % 2 ^ (n - 64) * 2 ^ 64 = 0) ↔ hi * 2 ^ (64 - (n - 64)) % 18446744073709551616 = 0 := by
      rw [e, Nat.mul_eq_zero]; omega
    rw [show (2 : Nat) ^ 64 = 18446744073709551616 by decide] at e2 ⊢
    by_cases hz : hi * 2 ^ (64 - (n - 64)) % 18446744073709551616 = 0
    · rw [decide_eq_true (e2.2 hz), hz]; rfl
    · rw [decide_eq_false (fun h => hz (e2.1 h))]
      rw [beq_eq_false_iff_ne]; omega
  · show _ = _
    rw [eq_comm, decide_eq_false_iff_not]
    intro h
    have hd : 2 ^ 64 ∣ hi * 18446744073709551616 + lo := Nat.dvd_trans (Nat.pow_dvd_pow 2 (by omega)) (Nat.dvd_of_mod_eq_zero h)
    have := Nat.mod_eq_zero_of_dvd hd
    omega
  · refine Let.as ((64 - n : Nat) : Int) (by rw [wi (by omega) (by omega)]; omega) ⟨by omega, Let.as _ (shlN lo (64 - n) (by omega)) ?_⟩
    show _ = _
    have e := shl0 lo n (by omega)
    have e2 : (hi * 18446744073709551616 + lo) % 2 ^ n = lo % 2 ^ n := by
      rw [low n (by omega), ← Nat.mul_assoc, Nat.add_comm, Nat.add_mul_mod_self_right]
    rw [e2]
    by_cases hz : lo * 2 ^ (64 - n) % 18446744073709551616 = 0
    · rw [decide_eq_true (e.1 hz), hz]; rfl
    · rw [decide_eq_false (fun h => hz (e.2 h))]
      rw [beq_eq_false_iff_ne]; omega
/-- What is lost of a unit of 2 h, of which r is left over, and more. -/
def lostC (r h : Nat) (more : Bool) : Int := if h ≤ r then (if r = h ∧ more = false then 2 else 3) else if r = 0 ∧ more = false then 0 else 1
theorem and1 {x : Nat} (h : x < 18446744073709551616) : bits .and .u64 (x : Int) 1 = ((x % 2 : Nat) : Int) := by
  have hk : ∀ n : Int, 0 ≤ n → n < 2 ^ 64 → IntKind.u64.wrap n = n := fun n h0 h1 => wu h0 (by simpa using h1)
  have := bits_mask .u64 64 (by simp [IntKind.bits]) hk 1 (by omega) (x : Int) (by omega) (by simp; omega)
  rw [show ((2 : Int) ^ 1 - 1) = 1 from rfl] at this
  rw [this]; omega
theorem shifted_ev (v : Gulpvalue) (hi lo n : Nat) (hh : v.hi_ = (hi : Int)) (hl : v.lo_ = (lo : Int)) (h1 : hi < 18446744073709551616) (h2 : lo < 18446744073709551616) (h0 : 1 ≤ n) (hn : n ≤ 1000000)
    (hz : hi * 18446744073709551616 + lo ≠ 0 ∨ v.more_ = true) (hq : (hi * 18446744073709551616 + lo) / 2 ^ n < 18446744073709551616) :
    Ev_ulp_value_shifted v (n : Int) ((((hi * 18446744073709551616 + lo) / 2 ^ n : Nat) : Int), lostC ((hi * 18446744073709551616 + lo) % 2 ^ n) (2 ^ (n - 1)) v.more_) := by
  refine walk_ulp_value_shifted ?_
  unfold W_ulp_value_shifted
  rw [hh, hl]
  refine Br.d (fun a => ?_) (fun a => ?_)
  · have hN : hi * 18446744073709551616 + lo < 2 ^ 128 := by omega
    have hp : 2 ^ 128 ≤ 2 ^ (n - 1) := Nat.pow_le_pow_right (by omega) (by omega)
    have hp2 : 2 ^ (n - 1) ≤ 2 ^ n := Nat.pow_le_pow_right (by omega) (by omega)
    generalize 2 ^ (n - 1) = H at *
    rw [Nat.div_eq_of_lt (by omega), Nat.mod_eq_of_lt (by omega)]
    unfold lostC
    rw [if_neg (by omega), if_neg]
    · rfl
    · rintro ⟨k1, k2⟩; rcases hz with hz | hz
      · exact hz k1
      · rw [k2] at hz; cases hz
  · refine Call.mk (right_ev' _ hi lo n rfl rfl h1 h2 (by omega)) (Let.as ((n - 1 : Nat) : Int) (by rw [wi (by omega) (by omega)]; omega) (Call.mk (right_ev' _ hi lo (n - 1) rfl rfl h1 h2 (by omega)) ?_))
    generalize hN : hi * 18446744073709551616 + lo = N at *
    have hbit : N / 2 ^ (n - 1) % 18446744073709551616 % 2 = N / 2 ^ (n - 1) % 2 := by omega
    refine Let.as ((N / 2 ^ (n - 1) % 2 : Nat) : Int) (by rw [and1 (Nat.mod_lt _ (by decide)), hbit]) ?_
    rw [Nat.mod_eq_of_lt hq]
    -- what is left over
    have hpow : 2 ^ n = 2 ^ (n - 1) * 2 := by rw [← Nat.pow_succ]; congr 1; omega
    have hH := Nat.two_pow_pos (n - 1)
    have hr : N % 2 ^ n = N % 2 ^ (n - 1) + 2 ^ (n - 1) * (N / 2 ^ (n - 1) % 2) := by rw [hpow, Nat.mod_mul]
    have hl := Nat.mod_lt N hH
    refine ⟨fun x => x = (v.more_ || decide (N % 2 ^ (n - 1) ≠ 0)), ?_, fun x hx => ?_⟩
    · cases hm : v.more_ with
      | true => exact Br.t rfl (by simp)
      | false =>
        refine Br.f rfl (Br.d (fun b => ?_) (fun b => ?_))
        · refine Let.as ((n - 1 : Nat) : Int) (by rw [wi (by omega) (by omega)]; omega) (Call.mk (even_ev _ hi lo (n - 1) rfl rfl h1 h2 (by omega) (by omega)) ?_)
          rw [hN]; simp
        · have : n = 1 := by omega
          subst this
          simp [Nat.mod_one]
    · subst hx
      have b2 : N / 2 ^ (n - 1) % 2 = 0 ∨ N / 2 ^ (n - 1) % 2 = 1 := by omega
      generalize hrr : N % 2 ^ n = R at *
      generalize N % 2 ^ (n - 1) = R' at *
      generalize 2 ^ (n - 1) = H at *
      rcases b2 with b2 | b2
      · rw [b2] at hr ⊢
        refine ⟨fun x => x = false, Br.eF (by omega) rfl, fun x hx => ?_⟩
        subst hx
        refine Br.f rfl (Br.eF (by omega) ?_)
        unfold lostC
        rw [if_neg (by omega)]
        cases hm : v.more_ with
        | true => exact Br.t rfl (by rw [if_neg (by simp)])
        | false =>
          by_cases h3 : R = 0
          · rw [if_pos ⟨h3, rfl⟩]; exact Br.f (by simp; omega) rfl
          · rw [if_neg (fun h => h3 h.1)]; exact Br.t (by simp; omega) rfl
      · rw [b2] at hr ⊢
        refine ⟨fun x => x = (v.more_ || decide (R' ≠ 0)), Br.eT rfl rfl, fun x hx => ?_⟩
        subst hx
        unfold lostC
        rw [if_pos (by omega)]
        cases hm : v.more_ with
        | true => exact Br.t rfl (by rw [if_neg (by simp)])
        | false =>
          by_cases h3 : R = H
          · rw [if_pos ⟨h3, rfl⟩]; exact Br.f (by simp; omega) (Br.eT rfl rfl)
          · rw [if_neg (fun h => h3 h.1)]; exact Br.t (by simp; omega) rfl
theorem len_ev (v : Gulpvalue) (hi lo : Nat) (hh : v.hi_ = (hi : Int)) (hl : v.lo_ = (lo : Int)) (h1 : hi < 18446744073709551616) (h2 : lo < 18446744073709551616) :
    Ev_ulp_value_len v ((blen (hi * 18446744073709551616 + lo) : Nat) : Int) := by
  refine walk_ulp_value_len ?_
  unfold W_ulp_value_len
  rw [hh, hl]
  refine Br.d (fun a => Call.mk (len64_ev hi h1) ?_) (fun a => Call.mk (len64_ev lo h2) ?_)
  · have hb := (blen_le hi 64).2 (by simpa using h1)
    have := blen_shift (a := hi * 18446744073709551616 + lo) (k := 64) (by simp only [Nat.reducePow]; omega)
    have e : (hi * 18446744073709551616 + lo) / 2 ^ 64 = hi := by omega
    rw [e] at this
    exact Let.as _ (wi (by omega) (by omega)) (by omega)
  · have : hi = 0 := by omega
    subst this
    show _ = _
    rw [Nat.zero_mul, Nat.zero_add]
end Go.Sim.YtlkpbnhinnhlfaaGreat
