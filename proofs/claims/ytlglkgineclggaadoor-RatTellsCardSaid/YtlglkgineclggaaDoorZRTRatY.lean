/- What is proved: what the functions of numbers compute (the program's: right, size, gcd, made, products, quotients), in words of the printed statements. -/
import Derived.Test.YtlglkgineclggaaDoorZRTWF3
import Derived.Test.YtlglkgineclggaaDoorZRTExtB
import Derived.Test.YtlglkgineclggaaDoorZRTDivX
import Derived.Test.YtlglkgineclggaaDoorZRTBig
import Derived.Test.YtlglkgineclggaaDoorZRTPureK
namespace Go.Sim.YtlglkgineclggaaDoor
open Go.RowKit Go.Proofs Go.Proofs.Tryd
def GRat.inI (a : GRat) : Prop := Sim.inI a.N ∧ Sim.inI a.D
def GRat.right (a : GRat) : Bool := rightS a.N a.D
abbrev GRat.p (a : GRat) : Int × Int := (a.N, a.D)
theorem GRat.right_spec {a : GRat} : a.right = true ↔ 1 ≤ a.D ∧ a.N ≠ -9223372036854775808 ∧ Nat.gcd a.N.natAbs a.D.natAbs = 1 := rightS_spec
theorem wuM (n : Int) : IntKind.u64.wrap n = n % 18446744073709551616 := by simp only [IntKind.wrap, IntKind.bits, IntKind.signed, Bool.false_and, Bool.false_eq_true, if_false]; omega
theorem rsize_ev {n : Int} (h : Sim.inI n) : Ev_rat_size n ((n.natAbs : Nat) : Int) := by
  unfold Sim.inI at h
  refine walk_rat_size ?_
  unfold W_rat_size
  refine Br.d (fun a => Let.as (n + 18446744073709551616) (by rw [wuM]; omega) (Let.as ((n.natAbs : Nat) : Int) (by rw [wuM]; omega) rfl)) (fun a => Let.as ((n.natAbs : Nat) : Int) (by rw [wuM]; omega) rfl)
theorem gcd_ev (a b : Nat) : Ev_rat_gcd (a : Int) (b : Int) ((Nat.gcd a b : Nat) : Int) := by
  refine walk_rat_gcd ?_
  unfold W_rat_gcd
  refine ⟨fun x y => ∃ m n : Nat, x = (m : Int) ∧ y = (n : Int) ∧ Nat.gcd m n = Nat.gcd a b, fun _ y => y.toNat, ⟨a, b, rfl, rfl, rfl⟩, ?_⟩
  rintro _ _ ⟨m, n, rfl, rfl, hg⟩
  refine Br.d (fun h => ⟨by omega, Let.as ((m % n : Nat) : Int) rfl ⟨⟨n, m % n, rfl, rfl, by rw [← hg, Nat.gcd_comm n, ← Nat.gcd_rec, Nat.gcd_comm]⟩, ?_⟩⟩) (fun h => ?_)
  · have := Nat.mod_lt m (show n > 0 by omega)
    simp only [Int.toNat_natCast]; exact this
  · have : n = 0 := by omega
    subst this
    rw [Nat.gcd_zero_right] at hg
    rw [← hg]
theorem right_ev {a : GRat} (h : a.inI) : Ev_rat_Right a a.right := by
  have hN := h.1
  have hD := h.2
  refine walk_rat_Right ?_
  unfold W_rat_Right
  unfold GRat.right rightS
  refine Br.d (fun c => Br.d (fun d => Call.mk (rsize_ev hN) (Call.mk (rsize_ev hD) (Call.mk (gcd_ev _ _) ?_))) (fun d => ?_)) (fun c => ?_)
  · show _ = _
    rw [decide_eq_true (show 1 ≤ a.D from c), decide_eq_true (show a.N ≠ -9223372036854775808 by omega)]
    simp only [Bool.true_and]
    by_cases e : Nat.gcd a.N.natAbs a.D.natAbs = 1
    · rw [e]; rfl
    · rw [beq_eq_false_iff_ne.2 e, beq_eq_false_iff_ne]; omega
  · unfold Sim.inI at hN
    rw [decide_eq_false (show ¬ a.N ≠ -9223372036854775808 by omega)]; simp
  · rw [decide_eq_false (show ¬ 1 ≤ a.D from c)]; simp
end Go.Sim.YtlglkgineclggaaDoor
