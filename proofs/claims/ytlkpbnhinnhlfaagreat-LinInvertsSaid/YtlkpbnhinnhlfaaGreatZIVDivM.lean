/- What is proved: one digit of a long division: what is guessed, and how the guess is mended. -/
import Derived.Test.YtlkpbnhinnhlfaaGreatZIVBig
import Derived.Test.YtlkpbnhinnhlfaaGreatZIVExtF

namespace Go.Sim
open Go.RowKit
/-- What is known of a guess 'q1' with what is left 'rh': not below the true digit. -/
def Guess (U y1 y0 u1 q1 rh : Nat) : Prop := U = q1 * y1 + rh ∧ (U * 4294967296 + u1) / (y1 * 4294967296 + y0) ≤ q1
theorem guess_init {U y1 y0 u1 : Nat} (hy : 2147483648 ≤ y1) (h1 : u1 < 4294967296) : Guess U y1 y0 u1 (U / y1) (U % y1) := by
  refine ⟨by rw [Nat.mul_comm]; exact (Nat.div_add_mod U y1).symm, ?_⟩
  have e : U = U / y1 * y1 + U % y1 := by rw [Nat.mul_comm]; exact (Nat.div_add_mod U y1).symm
  have hr : U % y1 < y1 := Nat.mod_lt _ (by omega)
  refine Nat.le_of_lt_succ (Nat.div_lt_of_lt_mul ?_)
  have h2 : (y1 * 4294967296 + y0) * (U / y1 + 1) = U / y1 * y1 * 4294967296 + y1 * 4294967296 + y0 * (U / y1 + 1) := by
    rw [Nat.add_mul, Nat.mul_add, Nat.mul_one, Nat.mul_right_comm y1, Nat.mul_comm y1 (U / y1)]
  have h3 : (U / y1).succ = U / y1 + 1 := rfl
  rw [h3, h2]
  omega
/-- The test: the guess is too great. -/
theorem guess_test {U y1 y0 u1 q1 rh : Nat} (hy : 2147483648 ≤ y1) (h : Guess U y1 y0 u1 q1 rh) : 4294967296 * rh + u1 < q1 * y0 ↔ (U * 4294967296 + u1) / (y1 * 4294967296 + y0) < q1 := by
  obtain ⟨e, _⟩ := h
  rw [Nat.div_lt_iff_lt_mul (by omega)]
  have h2 : q1 * (y1 * 4294967296 + y0) = q1 * y1 * 4294967296 + q1 * y0 := by rw [Nat.mul_add, Nat.mul_assoc]
  rw [h2]
  have h3 : U * 4294967296 = q1 * y1 * 4294967296 + rh * 4294967296 := by rw [e, Nat.add_mul]
  omega
theorem guess_big {U y1 y0 u1 q1 : Nat} (_hy : 2147483648 ≤ y1) (hU : U < y1 * 4294967296 + y0) (h1 : u1 < 4294967296) (h : 4294967296 ≤ q1) : (U * 4294967296 + u1) / (y1 * 4294967296 + y0) < q1 := by
  refine Nat.lt_of_lt_of_le ?_ h
  rw [Nat.div_lt_iff_lt_mul (by omega)]
  omega
theorem guess_dec {U y1 y0 u1 q1 rh : Nat} (h : Guess U y1 y0 u1 q1 rh) (ht : (U * 4294967296 + u1) / (y1 * 4294967296 + y0) < q1) : Guess U y1 y0 u1 (q1 - 1) (rh + y1) := by
  obtain ⟨e, h2⟩ := h
  refine ⟨?_, Nat.le_sub_one_of_lt ht⟩
  obtain ⟨k, rfl⟩ : ∃ k, q1 = k + 1 := ⟨q1 - 1, by have := Nat.lt_of_le_of_lt (Nat.zero_le _) ht; omega⟩
  rw [Nat.add_sub_cancel, e, Nat.add_mul]
  omega
/-- It is the digit, where the test fails. -/
theorem guess_done {U y1 y0 u1 q1 rh : Nat} (hy : 2147483648 ≤ y1) (h : Guess U y1 y0 u1 q1 rh) (ht : ¬ (4294967296 * rh + u1 < q1 * y0)) : q1 = (U * 4294967296 + u1) / (y1 * 4294967296 + y0) := by
  rw [guess_test hy h] at ht
  have := h.2
  omega
/-- It is the digit, where what is left is great. -/
theorem guess_stop {U y1 y0 u1 q1 rh : Nat} (hy : 2147483648 ≤ y1) (h0 : y0 < 4294967296) (h : Guess U y1 y0 u1 q1 rh) (hq : q1 ≤ 4294967296) (hr : 4294967296 ≤ rh) : q1 = (U * 4294967296 + u1) / (y1 * 4294967296 + y0) := by
  refine guess_done hy h ?_
  have h1 : q1 * y0 ≤ 4294967296 * y0 := Nat.mul_le_mul_right _ hq
  omega
theorem guess_top {U y1 y0 : Nat} (hy : 2147483648 ≤ y1) (hU : U < y1 * 4294967296 + y0) (h0 : y0 < 4294967296) : U / y1 ≤ 4294967297 := by
  have h : U < 4294967298 * y1 := by omega
  have := (Nat.div_lt_iff_lt_mul (show 0 < y1 by omega)).2 h
  omega
theorem blen_shift {a k : Nat} (h : 2 ^ k ≤ a) : blen (a / 2 ^ k) + k = blen a := by
  have key : ∀ n, blen a ≤ n ↔ blen (a / 2 ^ k) + k ≤ n := by
    intro n
    rw [blen_le]
    constructor
    · intro hn
      have hk : k ≤ n := by
        rcases Nat.lt_or_ge n k with h' | h'
        · have := Nat.pow_lt_pow_right (a := 2) (by omega) h'; omega
        · exact h'
      obtain ⟨j, rfl⟩ := Nat.exists_eq_add_of_le hk
      have := (blen_le (a / 2 ^ k) j).2 (Nat.div_lt_of_lt_mul (by rw [← Nat.pow_add]; exact hn))
      omega
    · intro hn
      obtain ⟨j, rfl⟩ := Nat.exists_eq_add_of_le (show k ≤ n by omega)
      have := (blen_le (a / 2 ^ k) j).1 (by omega)
      have h2 := (Nat.div_lt_iff_lt_mul (Nat.two_pow_pos k)).1 this
      rw [Nat.pow_add, Nat.mul_comm]
      exact h2
  have a1 := (key _).1 (Nat.le_refl _)
  have a2 := (key _).2 (Nat.le_refl _)
  omega
/-- A table of how many bits the numbers of 8 bits have. -/
def tabB (s : ByteArray) : Bool := (List.range 256).all fun x => match s[x]? with | some b => decide (x < 2 ^ b.toNat) && (decide (b.toNat = 0) || decide (2 ^ (b.toNat - 1) ≤ x)) | none => false
theorem tab_at {s : ByteArray} (h : tabB s = true) {x : Nat} (hx : x < 256) : ∃ b, s[((x : Nat) : Int).toNat]? = some b ∧ (b.toNat : Int) = ((blen x : Nat) : Int) := by
  have := List.all_eq_true.1 h x (by simpa using hx)
  rw [Int.toNat_natCast]
  split at this
  · rename_i b hb
    refine ⟨b, hb, ?_⟩
    simp only [Bool.and_eq_true, Bool.or_eq_true, decide_eq_true_eq] at this
    obtain ⟨h1, h2⟩ := this
    have h3 := (blen_le x _).2 h1
    rcases h2 with h2 | h2
    · omega
    · have h4 : ¬ (blen x ≤ b.toNat - 1) := fun hh => by have := (blen_le x _).1 hh; omega
      omega
  · cases this
theorem div_linW {W U l u1 u0 p V r R : Nat} (hl : l = u1 * W + u0) (h1 : U * W + u1 = p + V) (h2 : V * W + u0 = r + R) : U * (W * W) + l = p * W + r + R := by
  have e1 : U * (W * W) + (u1 * W + u0) = (U * W + u1) * W + u0 := by rw [Nat.add_mul, Nat.mul_assoc, Nat.add_assoc]
  have e2 : (p + V) * W + u0 = p * W + (V * W + u0) := by rw [Nat.add_mul, Nat.add_assoc]
  rw [hl, e1, h1, e2, h2, Nat.add_assoc]
/-- Long division by two digits: all together. -/
theorem div_allW {W A y s Y U l u1 u0 q1 V q0 R : Nat} (hY : Y = y * 2 ^ s) (hN : A * 2 ^ s = U * (W * W) + l) (hl : l = u1 * W + u0)
    (h1 : U * W + u1 = q1 * Y + V) (h2 : V * W + u0 = q0 * Y + R) (hR : R < Y) : q1 * W + q0 = A / y ∧ R / 2 ^ s = A % y := by
  have hs : 0 < 2 ^ s := Nat.two_pow_pos s
  have hYp : 0 < Y := Nat.lt_of_le_of_lt (Nat.zero_le _) hR
  have e : A * 2 ^ s = (q1 * W + q0) * Y + R := by
    rw [hN, div_linW hl h1 h2, Nat.add_mul, Nat.mul_right_comm]
  have g1 : ∀ k, (k * Y + R) / Y = k := fun k => by rw [Nat.add_comm, Nat.add_mul_div_right _ _ hYp, Nat.div_eq_of_lt hR, Nat.zero_add]
  have g2 : ∀ k, (k * Y + R) % Y = R := fun k => by rw [Nat.add_comm, Nat.add_mul_mod_self_right, Nat.mod_eq_of_lt hR]
  have h3 : A * 2 ^ s / Y = A / y := by subst hY; exact Nat.mul_div_mul_right _ _ hs
  have h4 : A * 2 ^ s % Y = A % y * 2 ^ s := by subst hY; exact Nat.mul_mod_mul_right _ _ _
  have h5 : R = A % y * 2 ^ s := (g2 _).symm.trans ((congrArg (· % Y) e.symm).trans h4)
  refine ⟨(g1 _).symm.trans ((congrArg (· / Y) e.symm).trans h3), ?_⟩
  rw [h5]
  exact Nat.mul_div_cancel _ hs
theorem norm_bd {y : Nat} (hy : y ≠ 0) (h : blen y ≤ 64) : 2 ^ 63 ≤ y * 2 ^ (64 - blen y) ∧ y * 2 ^ (64 - blen y) < 2 ^ 64 := by
  have h1 := blen_ge hy
  have h2 := blen_lt y
  have h3 := blen_pos hy
  constructor
  · have := Nat.mul_le_mul_right (2 ^ (64 - blen y)) h1
    rw [← Nat.pow_add, show blen y - 1 + (64 - blen y) = 63 by omega] at this
    exact this
  · have := Nat.mul_lt_mul_of_pos_right h2 (Nat.two_pow_pos (64 - blen y))
    rw [← Nat.pow_add, show blen y + (64 - blen y) = 64 by omega] at this
    exact this
theorem norm_top {hi lo s : Nat} (hs : s ≤ 64) : (hi * 2 ^ 64 + lo) * 2 ^ s = (hi * 2 ^ s + lo / 2 ^ (64 - s)) * 2 ^ 64 + lo * 2 ^ s % 2 ^ 64 := by
  have e : (2 : Nat) ^ 64 = 2 ^ (64 - s) * 2 ^ s := by rw [← Nat.pow_add, show 64 - s + s = 64 by omega]
  have h1 : lo * 2 ^ s / 2 ^ 64 = lo / 2 ^ (64 - s) := by rw [e]; exact Nat.mul_div_mul_right _ _ (Nat.two_pow_pos s)
  have h2 := Nat.div_add_mod (lo * 2 ^ s) (2 ^ 64)
  rw [h1] at h2
  rw [Nat.add_mul, Nat.add_mul, Nat.mul_right_comm hi, Nat.add_assoc, Nat.mul_comm (lo / 2 ^ (64 - s)), h2]
theorem shlN (a s : Nat) (hs : s ≤ 64) : IntKind.u64.wrap ((a : Int) * 2 ^ (min ((s : Nat) : Int).toNat IntKind.u64.bits)) = ((a * 2 ^ s % 18446744073709551616 : Nat) : Int) := by
  have e : min ((s : Nat) : Int).toNat IntKind.u64.bits = s := by simp [IntKind.bits]; omega
  have h3 : ((a : Int) * 2 ^ s) = ((a * 2 ^ s : Nat) : Int) := by simp
  rw [e, h3, wuN]
theorem shrN (a s : Nat) (hs : s ≤ 64) : Int.fdiv (a : Int) (2 ^ (min ((s : Nat) : Int).toNat IntKind.u64.bits)) = ((a / 2 ^ s : Nat) : Int) := by
  have e : min ((s : Nat) : Int).toNat IntKind.u64.bits = s := by simp [IntKind.bits]; omega
  rw [e, Int.fdiv_eq_ediv_of_nonneg _ (Int.pow_nonneg (by omega))]
  simp
/-- What long division sets out with. -/
structure DivF (hi lo y s Y y1 y0 U l u1 u0 : Nat) : Prop where
  hs : s = 64 - blen y
  hs64 : s < 64
  hY : Y = y * 2 ^ s
  hYlo : 9223372036854775808 ≤ Y
  hYhi : Y < 18446744073709551616
  hy1 : y1 = Y / 4294967296
  hy0 : y0 = Y % 4294967296
  hU : U = lo / 2 ^ (64 - s) + hi * 2 ^ s
  hc : lo / 2 ^ (64 - s) < 2 ^ s
  hx : hi * 2 ^ s < 18446744073709551616
  hUY : U < Y
  hl : l = lo * 2 ^ s % 18446744073709551616
  hu1 : u1 = l / 4294967296
  hu0 : u0 = l % 4294967296
theorem div_set {hi lo y : Nat} (hy : y ≠ 0) (hy2 : y < 18446744073709551616) (hlo : lo < 18446744073709551616) (hlt : hi < y) : ∃ s Y y1 y0 U l u1 u0, DivF hi lo y s Y y1 y0 U l u1 u0 := by
  have hb := (blen_le y 64).2 (by simpa using hy2)
  have hb0 := blen_pos hy
  have hn := norm_bd hy hb
  have hs : 64 - blen y < 64 := by omega
  have hc : lo / 2 ^ (64 - (64 - blen y)) < 2 ^ (64 - blen y) := by
    refine Nat.div_lt_of_lt_mul ?_
    rw [← Nat.pow_add, show 64 - (64 - blen y) + (64 - blen y) = 64 by omega]
    simpa using hlo
  have hm : (hi + 1) * 2 ^ (64 - blen y) ≤ y * 2 ^ (64 - blen y) := Nat.mul_le_mul_right _ hlt
  rw [Nat.add_mul, Nat.one_mul] at hm
  have hp : 0 < 2 ^ (64 - blen y) := Nat.two_pow_pos _
  have h64 : (2 : Nat) ^ 64 = 18446744073709551616 := by decide
  have h63 : (2 : Nat) ^ 63 = 9223372036854775808 := by decide
  rw [h64, h63] at hn
  exact ⟨_, _, _, _, _, _, _, _, rfl, hs, rfl, hn.1, hn.2, rfl, rfl, rfl, hc, by omega, by omega, rfl, rfl, rfl⟩
end Go.Sim

/- What is proved: 128 bits divided by 64 bits: math/bits.Div64 and Rem64 yield the quotient and the rest. -/
namespace Go.Sim.YtlkpbnhinnhlfaaGreat
open Go.RowKit Go.Proofs Go.Proofs.Tryz
theorem shrC (a k : Nat) : Int.fdiv (a : Int) (2 ^ k) = ((a / 2 ^ k : Nat) : Int) := by
  rw [Int.fdiv_eq_ediv_of_nonneg _ (Int.pow_nonneg (by omega))]
  simp
theorem tab_k {s : ByteArray} (h : tabB s = true) {x : Nat} (hx : x < 256) {k : Int → Prop} (hk : k ((blen x : Nat) : Int)) : AtS s (x : Int) k := by
  obtain ⟨b, hb, e⟩ := tab_at h hx
  exact ⟨by omega, b, hb, by rw [e]; exact hk⟩
theorem Loop2.swap {α β : Type} {a : α} {b : β} {B : α → β → (α → β → Prop) → Prop} (h : Loop2 a b B) : Loop2 b a (fun y x k => B x y (fun x' y' => k y' x')) := by
  obtain ⟨I, μ, h0, h1⟩ := h
  exact ⟨fun y x => I x y, fun y x => μ x y, h0, fun y x hI => h1 x y hI⟩
theorem len64_ev (a : Nat) (ha : a < 18446744073709551616) : Ev_math_bits_Len64 (a : Int) ((blen a : Nat) : Int) := by
  refine walk_math_bits_Len64 ?_
  unfold W_math_bits_Len64
  refine ⟨fun x n => ∃ b m : Nat, x = (b : Int) ∧ n = (m : Int) ∧ b < 4294967296 ∧ blen b + m = blen a ∧ m ≤ 32, Br.d (fun g => Let.as _ (shrC a 32) ⟨_, 32, rfl, rfl, by omega, blen_shift (k := 32) (by simp only [Nat.reducePow]; omega), by omega⟩) (fun g => ⟨a, 0, rfl, rfl, by omega, by simp, by omega⟩), ?_⟩
  rintro _ _ ⟨x, n, rfl, rfl, k1, k2, k3⟩
  refine ⟨fun y m => ∃ b c : Nat, y = (b : Int) ∧ m = (c : Int) ∧ b < 65536 ∧ blen b + c = blen a ∧ c ≤ 48, Br.d (fun g => Let.as _ (shrC x 16) (Let.as _ (show _ = ((n + 16 : Nat) : Int) by rw [wi (by omega) (by omega)]; omega) ⟨_, _, rfl, rfl, by omega, by rw [← k2, ← blen_shift (a := x) (k := 16) (by simp only [Nat.reducePow]; omega)]; omega, by omega⟩)) (fun g => ⟨x, n, rfl, rfl, by omega, k2, by omega⟩), ?_⟩
  rintro _ _ ⟨y, m, rfl, rfl, k1, k2, k3⟩
  refine ⟨fun z l => ∃ b c : Nat, z = (b : Int) ∧ l = (c : Int) ∧ b < 256 ∧ blen b + c = blen a ∧ c ≤ 56, Br.d (fun g => Let.as _ (shrC y 8) (Let.as _ (show _ = ((m + 8 : Nat) : Int) by rw [wi (by omega) (by omega)]; omega) ⟨_, _, rfl, rfl, by omega, by rw [← k2, ← blen_shift (a := y) (k := 8) (by simp only [Nat.reducePow]; omega)]; omega, by omega⟩)) (fun g => ⟨y, m, rfl, rfl, by omega, k2, by omega⟩), ?_⟩
  rintro _ _ ⟨z, l, rfl, rfl, k1, k2, k3⟩
  have hz := (blen_le z 8).2 k1
  refine Let.as (z : Int) (by rw [IntKind.wrap_u8]; omega) ?_
  refine tab_k (by decide +kernel) k1 ?_
  refine Let.as ((blen z : Nat) : Int) (wi (by omega) (by omega)) ?_
  refine Let.as ((blen a : Nat) : Int) (by rw [wi (by omega) (by omega)]; omega) rfl
theorem lz64_ev (a : Nat) (ha : a < 18446744073709551616) : Ev_math_bits_LeadingZeros64 (a : Int) ((64 - blen a : Nat) : Int) := by
  have hb := (blen_le a 64).2 (by simpa using ha)
  refine walk_math_bits_LeadingZeros64 ?_
  unfold W_math_bits_LeadingZeros64
  refine Call.mk (len64_ev a ha) (Let.as _ (show _ = ((64 - blen a : Nat) : Int) by rw [wi (by omega) (by omega)]; omega) rfl)
/-- One digit: the loop that mends a guess. -/
theorem mend {Y y1 y0 U u1 : Nat} (hY : Y = y1 * 4294967296 + y0) (b1 : 2147483648 ≤ y1) (b2 : y1 < 4294967296) (b3 : y0 < 4294967296) (hU : U < Y) (h1 : u1 < 4294967296) (j : Int → Prop) (hj : j ((U * 4294967296 + u1) / Y : Nat)) :
    Loop2 ((U / y1 : Nat) : Int) ((U % y1 : Nat) : Int) (fun (x74 : Int) (x75 : Int) next76 =>
      Join1 (fun j81 =>
        Br (decide (x74 ≥ (4294967296 : Int))) (j81 true) (
          Let (IntKind.u64.wrap (x74 * (y0 : Int))) fun x82 =>
          Let (IntKind.u64.wrap ((4294967296 : Int) * x75)) fun x83 =>
          Let (IntKind.u64.wrap (x83 + (u1 : Int))) fun x84 =>
          j81 (decide (x82 > x84)))
      ) (fun (x80 : Bool) =>
        Br x80 (
          Let (IntKind.u64.wrap (x74 - (1 : Int))) fun x85 =>
          Let (IntKind.u64.wrap (x75 + (y1 : Int))) fun x86 =>
          Br (decide (x86 ≥ (4294967296 : Int))) (j x85) (
            next76 x85 x86)) (
          j x74))) := by
  have top := guess_top b1 (hY ▸ hU) b3
  have g0 := guess_init (U := U) (y0 := y0) b1 h1
  rw [hY] at hj
  refine ⟨fun a b => ∃ q rh : Nat, a = (q : Int) ∧ b = (rh : Int) ∧ Guess U y1 y0 u1 q rh ∧ rh < 4294967296 ∧ q ≤ 4294967297, fun a _ => a.toNat, ⟨_, _, rfl, rfl, g0, by have := Nat.mod_lt U (show y1 > 0 by omega); omega, top⟩, ?_⟩
  rintro _ _ ⟨q, rh, rfl, rfl, g, hr, hq⟩
  refine ⟨fun c => c = decide ((U * 4294967296 + u1) / (y1 * 4294967296 + y0) < q), Br.d (fun h => ?_) (fun h => ?_), ?_⟩
  · exact (decide_eq_true (guess_big b1 (hY ▸ hU) h1 (by omega))).symm
  · have hm : q * y0 ≤ 4294967295 * 4294967295 := Nat.mul_le_mul (by omega) (by omega)
    refine Let.as ((q * y0 : Nat) : Int) (by rw [← Int.natCast_mul, wu (by omega) (by omega)]) ?_
    refine Let.as ((4294967296 * rh : Nat) : Int) (by rw [wu (by omega) (by omega)]; omega) ?_
    refine Let.as ((4294967296 * rh + u1 : Nat) : Int) (by rw [wu (by omega) (by omega)]; omega) ?_
    have := guess_test b1 g
    show decide _ = decide _
    by_cases hh : 4294967296 * rh + u1 < q * y0
    · rw [decide_eq_true (by omega), decide_eq_true (this.1 hh)]
    · rw [decide_eq_false (by omega), decide_eq_false (fun h => hh (this.2 h))]
  · rintro _ rfl
    refine Br.d (fun ht => ?_) (fun hn => ?_)
    · have gd := guess_dec g ht
      have hq0 : 0 < q := Nat.lt_of_le_of_lt (Nat.zero_le _) ht
      refine Let.as ((q - 1 : Nat) : Int) (by rw [wu (by omega) (by omega)]; omega) ?_
      refine Let.as ((rh + y1 : Nat) : Int) (by rw [wu (by omega) (by omega)]; omega) ?_
      refine Br.d (fun hb => ?_) (fun hb => ?_)
      · rw [guess_stop b1 b3 gd (by omega) (by omega)]; exact hj
      · exact ⟨⟨_, _, rfl, rfl, gd, by omega, by omega⟩, by simp only [Int.toNat_natCast]; omega⟩
    · rw [← guess_test b1 g] at hn
      rw [guess_done b1 g hn]; exact hj
theorem div64_ev (hi lo y : Nat) (hlo : lo < 18446744073709551616) (hy : y < 18446744073709551616) (hlt : hi < y) :
    Ev_math_bits_Div64 (hi : Int) (lo : Int) (y : Int) ((((hi * 18446744073709551616 + lo) / y : Nat) : Int), (((hi * 18446744073709551616 + lo) % y : Nat) : Int)) := by
  have hy0 : y ≠ 0 := by omega
  refine walk_math_bits_Div64 ?_
  unfold W_math_bits_Div64
  refine Br.eF (by omega) (Br.dF (by omega) (Br.e (fun h0 => ?_) (fun h0 => ?_)))
  · have hh : hi = 0 := by omega
    subst hh
    refine ⟨by omega, Let.as ((lo / y : Nat) : Int) (by rw [← Int.ofNat_tdiv, wuN, Nat.mod_eq_of_lt (Nat.lt_of_le_of_lt (Nat.div_le_self _ _) hlo)]) ⟨by omega, Let.as ((lo % y : Nat) : Int) (by simp [Int.tmod]) ?_⟩⟩
    rw [Nat.zero_mul, Nat.zero_add]
  · obtain ⟨s, Y, y1, y0, U, l, u1, u0, f⟩ := div_set hy0 hy hlo hlt
    obtain ⟨fs, fs64, fY, fYlo, fYhi, fy1, fy0, fU, fc, fx, fUY, fl, fu1, fu0⟩ := f
    have b1 : 2147483648 ≤ y1 := by omega
    have b2 : y1 < 4294967296 := by omega
    have b3 : y0 < 4294967296 := by omega
    have bl64 : l < 18446744073709551616 := by rw [fl]; exact Nat.mod_lt _ (by omega)
    have bu1 : u1 < 4294967296 := by omega
    have bu0 : u0 < 4294967296 := by omega
    have bY : Y = y1 * 4294967296 + y0 := by omega
    have e64 : IntKind.u64.bits = 64 := rfl
    have hY2 := fY
    have hN := norm_top (hi := hi) (lo := lo) (s := s) (by omega)
    rw [show (2 : Nat) ^ 64 = 18446744073709551616 by decide, ← fl] at hN
    refine Call.mk (lz64_ev y hy) ?_
    rw [← fs]
    refine Let.as ((s : Nat) : Int) (wu (by omega) (by omega)) ⟨by omega, ?_⟩
    refine Let.as ((Y : Nat) : Int) (by rw [← e64, shlN y s (by omega), ← fY, Nat.mod_eq_of_lt fYhi]) ?_
    refine Let.as ((y1 : Nat) : Int) (by rw [fy1]; exact shrC Y 32) ?_
    refine Let.as ((y0 : Nat) : Int) (by rw [and32 fYhi, fy0]) ⟨by omega, ?_⟩
    refine Let.as ((hi * 2 ^ s : Nat) : Int) (by rw [← e64, shlN hi s (by omega), Nat.mod_eq_of_lt fx]) ?_
    refine Let.as ((64 - s : Nat) : Int) (by rw [wu (by omega) (by omega)]; omega) ⟨by omega, ?_⟩
    refine Let.as ((lo / 2 ^ (64 - s) : Nat) : Int) (shrN lo (64 - s) (by omega)) ?_
    refine Let.as ((U : Nat) : Int) (by rw [or_ok' fc (Nat.mul_mod_left _ _) fs64 fx, fU]) ⟨by omega, ?_⟩
    refine Let.as ((l : Nat) : Int) (by rw [← e64, shlN lo s (by omega), fl]) ?_
    refine Let.as ((u1 : Nat) : Int) (by rw [fu1]; exact shrC l 32) ?_
    refine Let.as ((u0 : Nat) : Int) (by rw [and32 bl64, fu0]) ⟨by omega, ?_⟩
    have hdU := Nat.div_add_mod U y1
    have hmU := Nat.mod_lt U (show y1 > 0 by omega)
    refine Let.as ((U / y1 : Nat) : Int) (by rw [← Int.ofNat_tdiv, wuN, Nat.mod_eq_of_lt (Nat.lt_of_le_of_lt (Nat.div_le_self _ _) (by omega))]) ?_
    have hU1 : U / y1 * y1 ≤ U := Nat.div_mul_le_self _ _
    refine Let.as ((U / y1 * y1 : Nat) : Int) (by rw [← Int.natCast_mul, wu (by omega) (by omega)]) ?_
    refine Let.as ((U % y1 : Nat) : Int) (by rw [Nat.mul_comm] at hdU; rw [wu (by omega) (by omega)]; omega) ?_
    have hY0 : 0 < Y := by omega
    obtain ⟨q1, hq1⟩ : ∃ q, q = (U * 4294967296 + u1) / Y := ⟨_, rfl⟩
    obtain ⟨V, hV⟩ : ∃ V, V = (U * 4294967296 + u1) % Y := ⟨_, rfl⟩
    have hVY : V < Y := by rw [hV]; exact Nat.mod_lt _ hY0
    have hA : U * 4294967296 + u1 = q1 * Y + V := by rw [hq1, hV, Nat.mul_comm _ Y]; exact (Nat.div_add_mod _ _).symm
    refine ⟨fun x => x = (q1 : Int), mend bY b1 b2 b3 fUY bu1 _ (by rw [hq1]), ?_⟩
    rintro _ rfl
    refine Let.as ((U * 4294967296 % 18446744073709551616 : Nat) : Int) (by rw [show ((U : Int) * 4294967296) = ((U * 4294967296 : Nat) : Int) by omega, wuN]) ?_
    refine Let.as (((U * 4294967296 + u1) % 18446744073709551616 : Nat) : Int) (by rw [← Int.natCast_add, wuN]; omega) ?_
    refine Let.as ((q1 * Y % 18446744073709551616 : Nat) : Int) (by rw [← Int.natCast_mul, wuN]) ?_
    refine Let.as ((V : Nat) : Int) (by
      simp only [IntKind.wrap, IntKind.bits, IntKind.signed, Bool.false_and, Bool.false_eq_true, if_false]
      omega) ⟨by omega, ?_⟩
    have hdV := Nat.div_add_mod V y1
    have hmV := Nat.mod_lt V (show y1 > 0 by omega)
    refine Let.as ((V / y1 : Nat) : Int) (by rw [← Int.ofNat_tdiv, wuN, Nat.mod_eq_of_lt (Nat.lt_of_le_of_lt (Nat.div_le_self _ _) (by omega))]) ?_
    have hV1 : V / y1 * y1 ≤ V := Nat.div_mul_le_self _ _
    refine Let.as ((V / y1 * y1 : Nat) : Int) (by rw [← Int.natCast_mul, wu (by omega) (by omega)]) ?_
    refine Let.as ((V % y1 : Nat) : Int) (by rw [Nat.mul_comm] at hdV; rw [wu (by omega) (by omega)]; omega) ?_
    obtain ⟨q0, hq0⟩ : ∃ q, q = (V * 4294967296 + u0) / Y := ⟨_, rfl⟩
    obtain ⟨R, hR⟩ : ∃ R, R = (V * 4294967296 + u0) % Y := ⟨_, rfl⟩
    have hRY : R < Y := by rw [hR]; exact Nat.mod_lt _ hY0
    have hB : V * 4294967296 + u0 = q0 * Y + R := by rw [hq0, hR, Nat.mul_comm _ Y]; exact (Nat.div_add_mod _ _).symm
    refine ⟨fun x => x = (q0 : Int), ?_, ?_⟩
    · have t := Loop2.swap (mend bY b1 b2 b3 hVY bu0 (fun x => x = (q0 : Int)) (by rw [hq0]))
      exact t
    rintro _ rfl
    have all := div_allW (W := 4294967296) (A := hi * 18446744073709551616 + lo) (y := y) (s := s) hY2 (by rw [fU, Nat.add_comm (lo / _)]; exact hN) (l := l) (u1 := u1) (u0 := u0) (by omega) hA hB hRY
    have hlt64 : (hi * 18446744073709551616 + lo) / y < 18446744073709551616 := Nat.div_lt_of_lt_mul (by have := Nat.mul_le_mul_right 18446744073709551616 (show hi + 1 ≤ y by omega); omega)
    have all1 := all.1
    refine Let.as ((q1 * 4294967296 % 18446744073709551616 : Nat) : Int) (by rw [show ((q1 : Int) * 4294967296) = ((q1 * 4294967296 : Nat) : Int) by omega, wuN]) ?_
    refine Let.as (((hi * 18446744073709551616 + lo) / y : Nat) : Int) (by rw [← Int.natCast_add, wuN]; omega) ?_
    refine Let.as ((V * 4294967296 % 18446744073709551616 : Nat) : Int) (by rw [show ((V : Int) * 4294967296) = ((V * 4294967296 : Nat) : Int) by omega, wuN]) ?_
    refine Let.as (((V * 4294967296 + u0) % 18446744073709551616 : Nat) : Int) (by rw [← Int.natCast_add, wuN]; omega) ?_
    refine Let.as ((q0 * Y % 18446744073709551616 : Nat) : Int) (by rw [← Int.natCast_mul, wuN]) ?_
    refine Let.as ((R : Nat) : Int) (by
      simp only [IntKind.wrap, IntKind.bits, IntKind.signed, Bool.false_and, Bool.false_eq_true, if_false]
      omega) ⟨by omega, ?_⟩
    refine Let.as (((hi * 18446744073709551616 + lo) % y : Nat) : Int) ((shrN R s (by omega)).trans (by rw [all.2])) rfl
end Go.Sim.YtlkpbnhinnhlfaaGreat
-- seatfit
