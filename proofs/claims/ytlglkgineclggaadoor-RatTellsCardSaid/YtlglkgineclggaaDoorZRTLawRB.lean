/- What is proved: RatBack: what is added and taken off again, multiplied and divided again, is as it was; the interval of a sum lies in the sum of the intervals, that of a product in the product. -/
import Derived.Test.YtlglkgineclggaaDoorZRTRatE
import Derived.Test.YtlglkgineclggaaDoorZRTWF6
namespace Go.Sim.YtlglkgineclggaaDoor
open Go.RowKit Go.Proofs Go.Proofs.Tryd
set_option exponentiation.threshold 5000
def holdS (a : GRat) : GIval := ⟨rd (a.N * (T74 : Int)) a.D.natAbs (-1), rd (a.N * (T74 : Int)) a.D.natAbs 1⟩
def loA (a : GRat) : Int := fV (dp (a.N * (T74 : Int)) a.D.natAbs)
def hiA (a : GRat) : Int := -fV (dp (-a.N * (T74 : Int)) a.D.natAbs)
structure Ends (a : GRat) : Prop where
  D : 1 ≤ a.D
  fin : FinI (holdS a)
  lo : fV (fI (holdS a).Lo) = loA a
  hi : fV (fI (holdS a).Hi) = hiA a
  l : loA a * a.D ≤ a.N * (T74 : Int)
  h : a.N * (T74 : Int) ≤ hiA a * a.D
  l1 : -(9223372036854775808 * (T74 : Int)) ≤ loA a
  l2 : loA a ≤ 9223372036854775808 * (T74 : Int)
  h1 : -(9223372036854775808 * (T74 : Int)) ≤ hiA a
  h2 : hiA a ≤ 9223372036854775808 * (T74 : Int)
theorem ends_of {a : GRat} (ha : a.inI) (hr : a.right = true) : Ends a := by
  obtain ⟨p1, p2, p3⟩ := GRat.right_spec.1 hr
  have hN := ha.1
  unfold Sim.inI at hN
  have hD : 0 < a.D.natAbs := by omega
  have eD : ((a.D.natAbs : Nat) : Int) = a.D := by omega
  have b1 := dp_b (N := a.N) ⟨by omega, by omega⟩ hD
  have b2 := dp_b (N := -a.N) ⟨by omega, by omega⟩ hD
  have f1 := (le_dp (P := a.N * (T74 : Int)) hD (by omega) (by omega)).1 b1.1
  have f2 := (le_dp (P := -a.N * (T74 : Int)) hD (by omega) (by omega)).1 b2.1
  have en : -(a.N * (T74 : Int)) = -a.N * (T74 : Int) := (Int.neg_mul _ _).symm
  have fin := fin_rd hD f1 (by rw [en]; exact f2)
  refine { D := p1, fin := fin, lo := ?_, hi := ?_, l := ?_, h := ?_, l1 := b1.2.2.1, l2 := b1.2.2.2, h1 := ?_, h2 := ?_ }
  · show fV (fI (rd _ _ (-1))) = _; rw [fI_rd_dn]; rfl
  · show fV (fI (rd _ _ 1)) = _; rw [fI_rd_up hD, fV_neg, en]; rfl
  · have := b1.2.1; rw [eD] at this; exact this
  · have := b2.2.1
    rw [eD] at this
    unfold hiA
    generalize fV (dp (-a.N * (T74 : Int)) a.D.natAbs) = V at *
    rw [Int.neg_mul] at this ⊢
    omega
  · have := b2.2.2.2; unfold hiA; omega
  · have := b2.2.2.1; unfold hiA; omega
theorem inI_ok {n : Int} (h : okInt .i64 n) : Sim.inI n := by
  have e1 : IntKind.i64.min = -9223372036854775808 := rfl
  have e2 : IntKind.i64.max = 9223372036854775807 := rfl
  unfold okInt at h
  unfold Sim.inI
  omega
end Go.Sim.YtlglkgineclggaaDoor
