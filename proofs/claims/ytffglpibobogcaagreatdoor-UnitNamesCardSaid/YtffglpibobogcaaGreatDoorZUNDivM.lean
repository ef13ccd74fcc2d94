/- What is proved: one digit of a long division: what is guessed, and how the guess is mended. -/
import Derived.Test.YtffglpibobogcaaGreatDoorZUNBig

namespace Go.Sim
open Go.RowKit
/-- What is known of a guess 'q1' with what is left 'rh': not below the true digit. -/
def Guess (U y1 y0 u1 q1 rh : Nat) : Prop := U = q1 * y1 + rh ∧ (U * 4294967296 + u1) / (y1 * 4294967296 + y0) ≤ q1
theorem guess_init {U y1 y0 u1 : Nat} (hy : 2147483648 ≤ y1) (h1 : u1 < 4294967296) : Guess U y1 y0 u1 (U / y1) (U % y1) := by
  refine ⟨by rw [Nat.mul_comm]; exact (Nat.div_add_mod U y1).symm, ?_⟩
  have e : U = U / y1 * y1 + U % y1 := by rw [Nat.mul_comm]; exact (Nat.div_add_mod U y1).symm
  have hr : U % y1 < y1 := Nat.mod_lt _ (by omega)
  refine Nat.le_of_lt_succ (Nat.div_lt_of_lt_mul ?_)
  have h2 : (y1 * 4294967296 + y0) * (U / y1 + 1) = U / y1 * y1 * 4294967296 + y1 * 4294967296 + y0 * (U / y1 + 1) := by
    rw [Nat.add_mul, Nat.mul_add, Nat.mul_one, Nat.mul_right_comm y1, Nat.mul_comm y1 (U / y1)]
  have h3 : (U / y1).succ = U / y1 + 1 := rfl
  rw [h3, h2]
  omega
/-- The test: the guess is too great. -/
theorem guess_test {U y1 y0 u1 q1 rh : Nat} (hy : 2147483648 ≤ y1) (h : Guess U y1 y0 u1 q1 rh) : 4294967296 * rh + u1 < q1 * y0 ↔ (U * 4294967296 + u1) / (y1 * 4294967296 + y0) < q1 := by
  obtain ⟨e, _⟩ := h
  rw [Nat.div_lt_iff_lt_mul (by omega)]
  have h2 : q1 * (y1 * 4294967296 + y0) = q1 * y1 * 4294967296 + q1 * y0 := by rw [Nat.mul_add, Nat.mul_assoc]
  rw [h2]
  have h3 : U * 4294967296 = q1 * y1 * 4294967296 + rh * 4294967296 := by rw [e, Nat.add_mul]
  omega
theorem guess_big {U y1 y0 u1 q1 : Nat} (_hy : 2147483648 ≤ y1) (hU : U < y1 * 4294967296 + y0) (h1 : u1 < 4294967296) (h : 4294967296 ≤ q1) : (U * 4294967296 + u1) / (y1 * 4294967296 + y0) < q1 := by
  refine Nat.lt_of_lt_of_le ?_ h
  rw [Nat.div_lt_iff_lt_mul (by omega)]
  omega
theorem guess_dec {U y1 y0 u1 q1 rh : Nat} (h : Guess U y1 y0 u1 q1 rh) (ht : (U * 4294967296 + u1) / (y1 * 4294967296 + y0) < q1) : Guess U y1 y0 u1 (q1 - 1) (rh + y1) := by
  obtain ⟨e, h2⟩ := h
  refine ⟨?_, Nat.le_sub_one_of_lt ht⟩
  obtain ⟨k, rfl⟩ : ∃ k, q1 = k + 1 := ⟨q1 - 1, by have := Nat.lt_of_le_of_lt (Nat.zero_le _) ht; omega⟩
  rw [Nat.add_sub_cancel, e, Nat.add_mul]
  omega
/-- It is the digit, where the test fails. -/
theorem guess_done {U y1 y0 u1 q1 rh : Nat} (hy : 2147483648 ≤ y1) (h : Guess U y1 y0 u1 q1 rh) (ht : ¬ (4294967296 * rh + u1 < q1 * y0)) : q1 = (U * 4294967296 + u1) / (y1 * 4294967296 + y0) := by
  rw [guess_test hy h] at ht
  have := h.2
  omega
/-- It is the digit, where what is left is great. -/
theorem guess_stop {U y1 y0 u1 q1 rh : Nat} (hy : 2147483648 ≤ y1) (h0 : y0 < 4294967296) (h : Guess U y1 y0 u1 q1 rh) (hq : q1 ≤ 4294967296) (hr : 4294967296 ≤ rh) : q1 = (U * 4294967296 + u1) / (y1 * 4294967296 + y0) := by
  refine guess_done hy h ?_
  have h1 : q1 * y0 ≤ 4294967296 * y0 := Nat.mul_le_mul_right _ hq
  omega
theorem guess_top {U y1 y0 : Nat} (hy : 2147483648 ≤ y1) (hU : U < y1 * 4294967296 + y0) (h0 : y0 < 4294967296) : U / y1 ≤ 4294967297 := by
  have h : U < 4294967298 * y1 := by omega
  have := (Nat.div_lt_iff_lt_mul (show 0 < y1 by omega)).2 h
  omega
theorem blen_shift {a k : Nat} (h : 2 ^ k ≤ a) : blen (a / 2 ^ k) + k = blen a := by
  have key : ∀ n, blen a ≤ n ↔ blen (a / 2 ^ k) + k ≤ n := by
    intro n
    rw [blen_le]
    constructor
    · intro hn
      have hk : k ≤ n := by
        rcases Nat.lt_or_ge n k with h' | h'
        · have := Nat.pow_lt_pow_right (a := 2) (by omega) h'; omega
        · exact h'
      obtain ⟨j, rfl⟩ := Nat.exists_eq_add_of_le hk
      have := (blen_le (a / 2 ^ k) j).2 (Nat.div_lt_of_lt_mul (by rw [← Nat.pow_add]; exact hn))
      omega
    · intro hn
      obtain ⟨j, rfl⟩ := Nat.exists_eq_add_of_le (show k ≤ n by omega)
      have := (blen_le (a / 2 ^ k) j).1 (by omega)
      have h2 := (Nat.div_lt_iff_lt_mul (Nat.two_pow_pos k)).1 this
      rw [Nat.pow_add, Nat.mul_comm]
      exact h2
  have a1 := (key _).1 (Nat.le_refl _)
  have a2 := (key _).2 (Nat.le_refl _)
  omega
/-- A table of how many bits the numbers of 8 bits have. -/
def tabB (s : ByteArray) : Bool := (List.range 256).all fun x => match s[x]? with | some b => decide (x < 2 ^ b.toNat) && (decide (b.toNat = 0) || decide (2 ^ (b.toNat - 1) ≤ x)) | none => false
theorem tab_at {s : ByteArray} (h : tabB s = true) {x : Nat} (hx : x < 256) : ∃ b, s[((x : Nat) : Int).toNat]? = some b ∧ (b.toNat : Int) = ((blen x : Nat) : Int) := by
  have := List.all_eq_true.1 h x (by simpa using hx)
  rw [Int.toNat_natCast]
  split at this
  · rename_i b hb
    refine ⟨b, hb, ?_⟩
    simp only [Bool.and_eq_true, Bool.or_eq_true, decide_eq_true_eq] at this
    obtain ⟨h1, h2⟩ := this
    have h3 := (blen_le x _).2 h1
    rcases h2 with h2 | h2
    · omega
    · have h4 : ¬ (blen x ≤ b.toNat - 1) := fun hh => by have := (blen_le x _).1 hh; omega
      omega
  · cases this
theorem div_linW {W U l u1 u0 p V r R : Nat} (hl : l = u1 * W + u0) (h1 : U * W + u1 = p + V) (h2 : V * W + u0 = r + R) : U * (W * W) + l = p * W + r + R := by
  have e1 : U * (W * W) + (u1 * W + u0) = (U * W + u1) * W + u0 := by rw [Nat.add_mul, Nat.mul_assoc, Nat.add_assoc]
  have e2 : (p + V) * W + u0 = p * W + (V * W + u0) := by rw [Nat.add_mul, Nat.add_assoc]
  rw [hl, e1, h1, e2, h2, Nat.add_assoc]
/-- Long division by two digits: all together. -/
theorem div_allW {W A y s Y U l u1 u0 q1 V q0 R : Nat} (hY : Y = y * 2 ^ s) (hN : A * 2 ^ s = U * (W * W) + l) (hl : l = u1 * W + u0)
    (h1 : U * W + u1 = q1 * Y + V) (h2 : V * W + u0 = q0 * Y + R) (hR : R < Y) : q1 * W + q0 = A / y ∧ R / 2 ^ s = A % y := by
  have hs : 0 < 2 ^ s := Nat.two_pow_pos s
  have hYp : 0 < Y := Nat.lt_of_le_of_lt (Nat.zero_le _) hR
  have e : A * 2 ^ s = (q1 * W + q0) * Y + R := by
    rw [hN, div_linW hl h1 h2, Nat.add_mul, Nat.mul_right_comm]
  have g1 : ∀ k, (k * Y + R) / Y = k := fun k => by rw [Nat.add_comm, Nat.add_mul_div_right _ _ hYp, Nat.div_eq_of_lt hR, Nat.zero_add]
  have g2 : ∀ k, (k * Y + R) % Y = R := fun k => by rw [Nat.add_comm, Nat.add_mul_mod_self_right, Nat.mod_eq_of_lt hR]
  have h3 : A * 2 ^ s / Y = A / y := by subst hY; exact Nat.mul_div_mul_right _ _ hs
  have h4 : A * 2 ^ s % Y = A % y * 2 ^ s := by subst hY; exact Nat.mul_mod_mul_right _ _ _
  have h5 : R = A % y * 2 ^ s := (g2 _).symm.trans ((congrArg (· % Y) e.symm).trans h4)
  refine ⟨(g1 _).symm.trans ((congrArg (· / Y) e.symm).trans h3), ?_⟩
  rw [h5]
  exact Nat.mul_div_cancel _ hs
theorem norm_bd {y : Nat} (hy : y ≠ 0) (h : blen y ≤ 64) : 2 ^ 63 ≤ y * 2 ^ (64 - blen y) ∧ y * 2 ^ (64 - blen y) < 2 ^ 64 := by
  have h1 := blen_ge hy
  have h2 := blen_lt y
  have h3 := blen_pos hy
  constructor
  · have := Nat.mul_le_mul_right (2 ^ (64 - blen y)) h1
    rw [← Nat.pow_add, show blen y - 1 + (64 - blen y) = 63 by omega] at this
    exact this
  · have := Nat.mul_lt_mul_of_pos_right h2 (Nat.two_pow_pos (64 - blen y))
    rw [← Nat.pow_add, show blen y + (64 - blen y) = 64 by omega] at this
    exact this
theorem norm_top {hi lo s : Nat} (hs : s ≤ 64) : (hi * 2 ^ 64 + lo) * 2 ^ s = (hi * 2 ^ s + lo / 2 ^ (64 - s)) * 2 ^ 64 + lo * 2 ^ s % 2 ^ 64 := by
  have e : (2 : Nat) ^ 64 = 2 ^ (64 - s) * 2 ^ s := by rw [← Nat.pow_add, show 64 - s + s = 64 by omega]
  have h1 : lo * 2 ^ s / 2 ^ 64 = lo / 2 ^ (64 - s) := by rw [e]; exact Nat.mul_div_mul_right _ _ (Nat.two_pow_pos s)
  have h2 := Nat.div_add_mod (lo * 2 ^ s) (2 ^ 64)
  rw [h1] at h2
  rw [Nat.add_mul, Nat.add_mul, Nat.mul_right_comm hi, Nat.add_assoc, Nat.mul_comm (lo / 2 ^ (64 - s)), h2]
theorem shlN (a s : Nat) (hs : s ≤ 64) : IntKind.u64.wrap ((a : Int) * 2 ^ (min ((s : Nat) : Int).toNat IntKind.u64.bits)) = ((a * 2 ^ s % 18446744073709551616 : Nat) : Int) := by
  have e : min ((s : Nat) : Int).toNat IntKind.u64.bits = s := by simp [IntKind.bits]; omega
  have h3 : ((a : Int) * 2 ^ s) = ((a * 2 ^ s : Nat) : Int) := by simp
  rw [e, h3, wuN]
theorem shrN (a s : Nat) (hs : s ≤ 64) : Int.fdiv (a : Int) (2 ^ (min ((s : Nat) : Int).toNat IntKind.u64.bits)) = ((a / 2 ^ s : Nat) : Int) := by
  have e : min ((s : Nat) : Int).toNat IntKind.u64.bits = s := by simp [IntKind.bits]; omega
  rw [e, Int.fdiv_eq_ediv_of_nonneg _ (Int.pow_nonneg (by omega))]
  simp
/-- What long division sets out with. -/
structure DivF (hi lo y s Y y1 y0 U l u1 u0 : Nat) : Prop where
  hs : s = 64 - blen y
  hs64 : s < 64
  hY : Y = y * 2 ^ s
  hYlo : 9223372036854775808 ≤ Y
  hYhi : Y < 18446744073709551616
  hy1 : y1 = Y / 4294967296
  hy0 : y0 = Y % 4294967296
  hU : U = lo / 2 ^ (64 - s) + hi * 2 ^ s
  hc : lo / 2 ^ (64 - s) < 2 ^ s
  hx : hi * 2 ^ s < 18446744073709551616
  hUY : U < Y
  hl : l = lo * 2 ^ s % 18446744073709551616
  hu1 : u1 = l / 4294967296
  hu0 : u0 = l % 4294967296
theorem div_set {hi lo y : Nat} (hy : y ≠ 0) (hy2 : y < 18446744073709551616) (hlo : lo < 18446744073709551616) (hlt : hi < y) : ∃ s Y y1 y0 U l u1 u0, DivF hi lo y s Y y1 y0 U l u1 u0 := by
  have hb := (blen_le y 64).2 (by simpa using hy2)
  have hb0 := blen_pos hy
  have hn := norm_bd hy hb
  have hs : 64 - blen y < 64 := by omega
  have hc : lo / 2 ^ (64 - (64 - blen y)) < 2 ^ (64 - blen y) := by
    refine Nat.div_lt_of_lt_mul ?_
    rw [← Nat.pow_add, show 64 - (64 - blen y) + (64 - blen y) = 64 by omega]
    simpa using hlo
  have hm : (hi + 1) * 2 ^ (64 - blen y) ≤ y * 2 ^ (64 - blen y) := Nat.mul_le_mul_right _ hlt
  rw [Nat.add_mul, Nat.one_mul] at hm
  have hp : 0 < 2 ^ (64 - blen y) := Nat.two_pow_pos _
  have h64 : (2 : Nat) ^ 64 = 18446744073709551616 := by decide
  have h63 : (2 : Nat) ^ 63 = 9223372036854775808 := by decide
  rw [h64, h63] at hn
  exact ⟨_, _, _, _, _, _, _, _, rfl, hs, rfl, hn.1, hn.2, rfl, rfl, rfl, hc, by omega, by omega, rfl, rfl, rfl⟩
end Go.Sim
