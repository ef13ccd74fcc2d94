/- What is proved: 128 bits divided by 64 bits: math/bits.Div64 and Rem64 yield the quotient and the rest. -/
import Derived.Test.YtefpfeoimgkldaaDoorZRRWD
import Derived.Test.YtefpfeoimgkldaaDoorZRRDivM
import Derived.Test.YtefpfeoimgkldaaDoorZRRBig

namespace Go.Sim.YtefpfeoimgkldaaDoor
open Go.RowKit Go.Proofs Go.Proofs.Tryd
theorem shrC (a k : Nat) : Int.fdiv (a : Int) (2 ^ k) = ((a / 2 ^ k : Nat) : Int) := by
  rw [Int.fdiv_eq_ediv_of_nonneg _ (Int.pow_nonneg (by omega))]
  simp
theorem tab_k {s : ByteArray} (h : tabB s = true) {x : Nat} (hx : x < 256) {k : Int → Prop} (hk : k ((blen x : Nat) : Int)) : AtS s (x : Int) k := by
  obtain ⟨b, hb, e⟩ := tab_at h hx
  exact ⟨by omega, b, hb, by rw [e]; exact hk⟩
theorem Loop2.swap {α β : Type} {a : α} {b : β} {B : α → β → (α → β → Prop) → Prop} (h : Loop2 a b B) : Loop2 b a (fun y x k => B x y (fun x' y' => k y' x')) := by
  obtain ⟨I, μ, h0, h1⟩ := h
  exact ⟨fun y x => I x y, fun y x => μ x y, h0, fun y x hI => h1 x y hI⟩
theorem len64_ev (a : Nat) (ha : a < 18446744073709551616) : Ev_math_bits_Len64 (a : Int) ((blen a : Nat) : Int) := by
  refine walk_math_bits_Len64 ?_
  unfold W_math_bits_Len64
  refine ⟨fun x n => ∃ b m : Nat, x = (b : Int) ∧ n = (m : Int) ∧ b < 4294967296 ∧ blen b + m = blen a ∧ m ≤ 32, Br.d (fun g => Let.as _ (shrC a 32) ⟨_, 32, rfl, rfl, by omega, blen_shift (k := 32) (by simp only [Nat.reducePow]; omega), by omega⟩) (fun g => ⟨a, 0, rfl, rfl, by omega, by simp, by omega⟩), ?_⟩
  rintro _ _ ⟨x, n, rfl, rfl, k1, k2, k3⟩
  refine ⟨fun y m => ∃ b c : Nat, y = (b : Int) ∧ m = (c : Int) ∧ b < 65536 ∧ blen b + c = blen a ∧ c ≤ 48, Br.d (fun g => Let.as _ (shrC x 16) (Let.as _ (show _ = ((n + 16 : Nat) : Int) by rw [wi (by omega) (by omega)]; omega) ⟨_, _, rfl, rfl, by omega, by rw [← k2, ← blen_shift (a := x) (k := 16) (by simp only [Nat.reducePow]; omega)]; omega, by omega⟩)) (fun g => ⟨x, n, rfl, rfl, by omega, k2, by omega⟩), ?_⟩
  rintro _ _ ⟨y, m, rfl, rfl, k1, k2, k3⟩
  refine ⟨fun z l => ∃ b c : Nat, z = (b : Int) ∧ l = (c : Int) ∧ b < 256 ∧ blen b + c = blen a ∧ c ≤ 56, Br.d (fun g => Let.as _ (shrC y 8) (Let.as _ (show _ = ((m + 8 : Nat) : Int) by rw [wi (by omega) (by omega)]; omega) ⟨_, _, rfl, rfl, by omega, by rw [← k2, ← blen_shift (a := y) (k := 8) (by simp only [Nat.reducePow]; omega)]; omega, by omega⟩)) (fun g => ⟨y, m, rfl, rfl, by omega, k2, by omega⟩), ?_⟩
  rintro _ _ ⟨z, l, rfl, rfl, k1, k2, k3⟩
  have hz := (blen_le z 8).2 k1
  refine Let.as (z : Int) (by rw [IntKind.wrap_u8]; omega) ?_
  refine tab_k (by decide +kernel) k1 ?_
  refine Let.as ((blen z : Nat) : Int) (wi (by omega) (by omega)) ?_
  refine Let.as ((blen a : Nat) : Int) (by rw [wi (by omega) (by omega)]; omega) rfl
theorem lz64_ev (a : Nat) (ha : a < 18446744073709551616) : Ev_math_bits_LeadingZeros64 (a : Int) ((64 - blen a : Nat) : Int) := by
  have hb := (blen_le a 64).2 (by simpa using ha)
  refine walk_math_bits_LeadingZeros64 ?_
  unfold W_math_bits_LeadingZeros64
  refine Call.mk (len64_ev a ha) (Let.as _ (show _ = ((64 - blen a : Nat) : Int) by rw [wi (by omega) (by omega)]; omega) rfl)
end Go.Sim.YtefpfeoimgkldaaDoor
