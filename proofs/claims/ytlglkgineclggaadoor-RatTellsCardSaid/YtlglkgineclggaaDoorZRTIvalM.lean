/- What is proved: the product of two intervals with finite ends; the interval of a number. -/
import Derived.Test.YtlglkgineclggaaDoorZRTIvalP
namespace Go.Sim.YtlglkgineclggaaDoor
open Go.RowKit Go.Proofs Go.Proofs.Tryd
theorem Loop3.two {α β : Type} {a0 a1 a2 : α} {b0 b1 b2 : β} {B : α → β → Int → (α → β → Int → Prop) → Prop} (h0 : ∀ k : α → β → Int → Prop, k a1 b1 1 → B a0 b0 0 k) (h1 : ∀ k : α → β → Int → Prop, k a2 b2 2 → B a1 b1 1 k)
    (h2 : ∀ k : α → β → Int → Prop, B a2 b2 2 k) : Loop3 a0 b0 (0 : Int) B := by
  refine ⟨fun a b i => (i = 0 ∧ a = a0 ∧ b = b0) ∨ (i = 1 ∧ a = a1 ∧ b = b1) ∨ (i = 2 ∧ a = a2 ∧ b = b2), fun _ _ i => (2 - i).toNat, .inl ⟨rfl, rfl, rfl⟩, ?_⟩
  rintro a b i (⟨rfl, rfl, rfl⟩ | ⟨rfl, rfl, rfl⟩ | ⟨rfl, rfl, rfl⟩)
  · exact h0 _ ⟨.inr (.inl ⟨rfl, rfl, rfl⟩), by show (2 - (1 : Int)).toNat < (2 - (0 : Int)).toNat; decide⟩
  · exact h1 _ ⟨.inr (.inr ⟨rfl, rfl, rfl⟩), by show (2 - (2 : Int)).toNat < (2 - (1 : Int)).toNat; decide⟩
  · exact h2 _
/-- A word that is a number, not -0. -/
structure NumB (b : Nat) : Prop where
  l : b < 18446744073709551616
  n : isN b
  z : b ≠ 9223372036854775808
theorem NumB.min {a b : Nat} (ha : NumB a) (hb : NumB b) : NumB (fminB a b) ∧ fI (fminB a b) = min (fI a) (fI b) := by
  rw [fmin_eq ha.l hb.l ha.n hb.n ha.z hb.z]
  split
  · exact ⟨ha, by omega⟩
  · exact ⟨hb, by omega⟩
theorem NumB.max {a b : Nat} (ha : NumB a) (hb : NumB b) : NumB (fmaxB a b) ∧ fI (fmaxB a b) = max (fI a) (fI b) := by
  rw [fmax_eq ha.l hb.l ha.n hb.n ha.z hb.z]
  split
  · exact ⟨hb, by omega⟩
  · exact ⟨ha, by omega⟩
theorem mulB_rd (a b : Nat) (dir : Int) : mulB a b dir = rd (fV (fI a) * fV (fI b)) (2 ^ 1074) dir := rfl
theorem addB_rd (a b : Nat) (dir : Int) : addB a b dir = rd (fV (fI a) + fV (fI b)) 1 dir := rfl
theorem rd_num (P : Int) (Q : Nat) (dir : Int) : NumB (rd P Q dir) := ⟨(rd_ok P Q dir).1, (rd_ok P Q dir).2.2, (rd_ok P Q dir).2.1⟩
end Go.Sim.YtlglkgineclggaaDoor
