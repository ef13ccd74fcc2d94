/- What is proved: one digit of a long division: what is guessed, and how the guess is mended. -/
import Derived.Test.YtefpfeoimgkldaaDoorZRRBig

namespace Go.Sim
open Go.RowKit
theorem blen_shift {a k : Nat} (h : 2 ^ k ≤ a) : blen (a / 2 ^ k) + k = blen a := by
  have key : ∀ n, blen a ≤ n ↔ blen (a / 2 ^ k) + k ≤ n := by
    intro n
    rw [blen_le]
    constructor
    · intro hn
      have hk : k ≤ n := by
        rcases Nat.lt_or_ge n k with h' | h'
        · have := Nat.pow_lt_pow_right (a := 2) (by omega) h'; omega
        · exact h'
      obtain ⟨j, rfl⟩ := Nat.exists_eq_add_of_le hk
      have := (blen_le (a / 2 ^ k) j).2 (Nat.div_lt_of_lt_mul (by rw [← Nat.pow_add]; exact hn))
      omega
    · intro hn
      obtain ⟨j, rfl⟩ := Nat.exists_eq_add_of_le (show k ≤ n by omega)
      have := (blen_le (a / 2 ^ k) j).1 (by omega)
      have h2 := (Nat.div_lt_iff_lt_mul (Nat.two_pow_pos k)).1 this
      rw [Nat.pow_add, Nat.mul_comm]
      exact h2
  have a1 := (key _).1 (Nat.le_refl _)
  have a2 := (key _).2 (Nat.le_refl _)
  omega
/-- A table of how many bits the numbers of 8 bits have. -/
def tabB (s : ByteArray) : Bool := (List.range 256).all fun x => match s[x]? with | some b => decide (x < 2 ^ b.toNat) && (decide (b.toNat = 0) || decide (2 ^ (b.toNat - 1) ≤ x)) | none => false
theorem tab_at {s : ByteArray} (h : tabB s = true) {x : Nat} (hx : x < 256) : ∃ b, s[((x : Nat) : Int).toNat]? = some b ∧ (b.toNat : Int) = ((blen x : Nat) : Int) := by
  have := List.all_eq_true.1 h x (by simpa using hx)
  rw [Int.toNat_natCast]
  split at this
  · rename_i b hb
    refine ⟨b, hb, ?_⟩
    simp only [Bool.and_eq_true, Bool.or_eq_true, decide_eq_true_eq] at this
    obtain ⟨h1, h2⟩ := this
    have h3 := (blen_le x _).2 h1
    rcases h2 with h2 | h2
    · omega
    · have h4 : ¬ (blen x ≤ b.toNat - 1) := fun hh => by have := (blen_le x _).1 hh; omega
      omega
  · cases this
/-- What long division sets out with. -/
structure DivF (hi lo y s Y y1 y0 U l u1 u0 : Nat) : Prop where
  hs : s = 64 - blen y
  hs64 : s < 64
  hY : Y = y * 2 ^ s
  hYlo : 9223372036854775808 ≤ Y
  hYhi : Y < 18446744073709551616
  hy1 : y1 = Y / 4294967296
  hy0 : y0 = Y % 4294967296
  hU : U = lo / 2 ^ (64 - s) + hi * 2 ^ s
  hc : lo / 2 ^ (64 - s) < 2 ^ s
  hx : hi * 2 ^ s < 18446744073709551616
  hUY : U < Y
  hl : l = lo * 2 ^ s % 18446744073709551616
  hu1 : u1 = l / 4294967296
  hu0 : u0 = l % 4294967296
end Go.Sim
