/- What is proved: ulp.Add, ulp.Mul and ulp.Round of finite floats yield the words of the exact results, rounded. -/
import Derived.Test.YtlglkgineclggaaDoorZRTFltA
import Derived.Test.YtlglkgineclggaaDoorZRTRatY
namespace Go.Sim.YtlglkgineclggaaDoor
open Go.RowKit Go.Proofs Go.Proofs.Tryd
set_option exponentiation.threshold 5000
/-- The exact sum's word. -/
def addB (a b : Nat) (dir : Int) : Nat := rnd (decide (fV (fI a) + fV (fI b) < 0)) (fV (fI a) + fV (fI b)).natAbs 1 dir
/-- The exact product's word. -/
def mulB (a b : Nat) (dir : Int) : Nat := rnd (decide (fV (fI a) * fV (fI b) < 0)) (fV (fI a) * fV (fI b)).natAbs (2 ^ 1074) dir
/-- A whole number times a power of two, rounded. -/
theorem roundp_ev {s : Bool} {M x y : Nat} {E : Int} (dir : Int) (hM : M < 18446744073709551616) (hE : -4000 ≤ E ∧ E ≤ 4000) (hxy : E + 1074 = (x : Int) - y) : Ev_ulp_Round ⟨s, (M : Int), E⟩ dir (rnd s (M * 2 ^ x) (2 ^ y) dir) := by
  refine walk_ulp_Round ?_
  unfold W_ulp_Round
  refine Let.as E (by show opMaxI E (-4000) = E; unfold opMaxI; split <;> omega) (Let.as E (by unfold opMinI; split <;> omega) (Call.mk (round_ev (hi := 0) (lo := M) (N := M) (A := M * 2 ^ x) (B := 2 ^ y) ⟨by omega, rfl, rfl, by omega, hM, ?_, Nat.two_pow_pos y, ⟨2 ^ x, y, x, Nat.mul_comm _ _, hxy, Nat.le_refl _, ?_, ?_⟩, fun h => by cases h⟩) rfl))
  · show -10000 ≤ E ∧ E ≤ 10000; omega
  · rw [Nat.add_mul]; have := Nat.two_pow_pos x; omega
  · exact ⟨fun h => (by cases h), fun h => absurd rfl h⟩
end Go.Sim.YtlglkgineclggaaDoor
