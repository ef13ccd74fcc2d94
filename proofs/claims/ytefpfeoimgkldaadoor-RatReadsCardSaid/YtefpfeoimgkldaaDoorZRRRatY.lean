/- What is proved: what the functions of numbers compute (the program's: right, size, gcd, made, products, quotients), in words of the printed statements. -/
import Derived.Test.YtefpfeoimgkldaaDoorZRRWF3
import Derived.Test.YtefpfeoimgkldaaDoorZRRExtB
import Derived.Test.YtefpfeoimgkldaaDoorZRRDivX
import Derived.Test.YtefpfeoimgkldaaDoorZRRBig
import Derived.Test.YtefpfeoimgkldaaDoorZRRPureK

namespace Go.Sim.YtefpfeoimgkldaaDoor
open Go.RowKit Go.Proofs Go.Proofs.Tryd
/-- An answer. -/
abbrev toR (r : (Int × Int) × Int) : GRat × Int := (⟨r.1.1, r.1.2⟩, r.2)
def GRat.inI (a : GRat) : Prop := Sim.inI a.N ∧ Sim.inI a.D
def GRat.right (a : GRat) : Bool := rightS a.N a.D
abbrev GRat.p (a : GRat) : Int × Int := (a.N, a.D)
theorem shr32' (a : Nat) : Int.fdiv (a : Int) (2 ^ 32) = ((a / 4294967296 : Nat) : Int) := by rw [shrC]
theorem mul64_ev (a b : Nat) (ha : a < 18446744073709551616) (hb : b < 18446744073709551616) : Ev_math_bits_Mul64 (a : Int) (b : Int) (((a * b / 18446744073709551616 : Nat) : Int), ((a * b % 18446744073709551616 : Nat) : Int)) := by
  obtain ⟨x0, hx0⟩ : ∃ x0, x0 = a % 4294967296 := ⟨_, rfl⟩
  obtain ⟨x1, hx1⟩ : ∃ x1, x1 = a / 4294967296 := ⟨_, rfl⟩
  obtain ⟨y0, hy0⟩ : ∃ y0, y0 = b % 4294967296 := ⟨_, rfl⟩
  obtain ⟨y1, hy1⟩ : ∃ y1, y1 = b / 4294967296 := ⟨_, rfl⟩
  have b00 : x0 * y0 ≤ 4294967295 * 4294967295 := Nat.mul_le_mul (by omega) (by omega)
  have b10 : x1 * y0 ≤ 4294967295 * 4294967295 := Nat.mul_le_mul (by omega) (by omega)
  have b01 : x0 * y1 ≤ 4294967295 * 4294967295 := Nat.mul_le_mul (by omega) (by omega)
  have b11 : x1 * y1 ≤ 4294967295 * 4294967295 := Nat.mul_le_mul (by omega) (by omega)
  obtain ⟨w0, hw0⟩ : ∃ w0, w0 = x0 * y0 := ⟨_, rfl⟩
  obtain ⟨t, ht⟩ : ∃ t, t = x1 * y0 + w0 / 4294967296 := ⟨_, rfl⟩
  obtain ⟨w1, hw1⟩ : ∃ w1, w1 = t % 4294967296 + x0 * y1 := ⟨_, rfl⟩
  have hres := mul64_ok (a := a) (b := b) (x0 := x0) (x1 := x1) (y0 := y0) (y1 := y1) (by omega) (by omega) hw0 ht hw1
  refine walk_math_bits_Mul64 ?_
  unfold W_math_bits_Mul64
  refine Let.as (x0 : Int) (by rw [and32 ha, hx0]) (Let.as (x1 : Int) (by rw [shr32', hx1]) (Let.as (y0 : Int) (by rw [and32 hb, hy0]) (Let.as (y1 : Int) (by rw [shr32', hy1]) ?_)))
  refine Let.as (w0 : Int) (by rw [← Int.natCast_mul, wu (by omega) (by omega), hw0]) (Let.as ((x1 * y0 : Nat) : Int) (by rw [← Int.natCast_mul, wu (by omega) (by omega)]) (Let.as _ (shr32' w0) (Let.as (t : Int) (by rw [wu (by omega) (by omega)]; omega) ?_)))
  refine Let.as ((t % 4294967296 : Nat) : Int) (and32 (by omega)) (Let.as _ (shr32' t) (Let.as ((x0 * y1 : Nat) : Int) (by rw [← Int.natCast_mul, wu (by omega) (by omega)]) (Let.as (w1 : Int) (by rw [wu (by omega) (by omega)]; omega) ?_)))
  refine Let.as ((x1 * y1 : Nat) : Int) (by rw [← Int.natCast_mul, wu (by omega) (by omega)]) (Let.as ((x1 * y1 + t / 4294967296 : Nat) : Int) (by rw [wu (by omega) (by omega)]; omega) (Let.as _ (shr32' w1) (Let.as ((a * b / 18446744073709551616 : Nat) : Int) (by rw [← hres, wu (by omega) (by omega)]; omega) ?_)))
  exact Let.as _ (by rw [← Int.natCast_mul, wuN]) rfl
theorem wuM (n : Int) : IntKind.u64.wrap n = n % 18446744073709551616 := by simp only [IntKind.wrap, IntKind.bits, IntKind.signed, Bool.false_and, Bool.false_eq_true, if_false]; omega
theorem gcd_ev (a b : Nat) : Ev_rat_gcd (a : Int) (b : Int) ((Nat.gcd a b : Nat) : Int) := by
  refine walk_rat_gcd ?_
  unfold W_rat_gcd
  refine ⟨fun x y => ∃ m n : Nat, x = (m : Int) ∧ y = (n : Int) ∧ Nat.gcd m n = Nat.gcd a b, fun _ y => y.toNat, ⟨a, b, rfl, rfl, rfl⟩, ?_⟩
  rintro _ _ ⟨m, n, rfl, rfl, hg⟩
  refine Br.d (fun h => ⟨by omega, Let.as ((m % n : Nat) : Int) rfl ⟨⟨n, m % n, rfl, rfl, by rw [← hg, Nat.gcd_comm n, ← Nat.gcd_rec, Nat.gcd_comm]⟩, ?_⟩⟩) (fun h => ?_)
  · have := Nat.mod_lt m (show n > 0 by omega)
    simp only [Int.toNat_natCast]; exact this
  · have : n = 0 := by omega
    subst this
    rw [Nat.gcd_zero_right] at hg
    rw [← hg]
theorem tdivN (a b : Nat) : Int.tdiv (a : Int) (b : Int) = ((a / b : Nat) : Int) := rfl
theorem made_ev (s : Bool) (n d : Nat) (hn : n < 18446744073709551616) (hd : d < 18446744073709551616) (hd0 : d ≠ 0) : Ev_rat_made s (n : Int) (d : Int) (toR (madeS s n d)) := by
  have hg : 0 < Nat.gcd n d := Nat.gcd_pos_of_pos_right _ (by omega)
  have h1 : n / Nat.gcd n d ≤ n := Nat.div_le_self _ _
  have h2 : d / Nat.gcd n d ≤ d := Nat.div_le_self _ _
  refine walk_rat_made ?_
  unfold W_rat_made
  refine Call.mk (gcd_ev n d) ⟨by omega, Let.as _ (by rw [tdivN, wu (Int.natCast_nonneg _) (by omega)]) ⟨by omega, Let.as _ (by rw [tdivN, wu (Int.natCast_nonneg _) (by omega)]) ?_⟩⟩
  unfold madeS
  generalize n / Nat.gcd n d = x at h1 ⊢
  generalize d / Nat.gcd n d = y at h2 ⊢
  refine Br.d (fun c => ?_) (fun c => Br.d (fun e => ?_) (fun e => ?_))
  · rw [if_neg (by omega)]
  · rw [if_neg (by omega)]
  · rw [if_pos (by omega)]
    cases s with
    | true => exact Br.t rfl (Let.as (x : Int) (wi (by omega) (by omega)) (Let.as (-(x : Int)) (by rw [wi (by omega) (by omega)]; omega) (Let.as (y : Int) (wi (by omega) (by omega)) rfl)))
    | false => exact Br.f rfl (Let.as (x : Int) (wi (by omega) (by omega)) (Let.as (y : Int) (wi (by omega) (by omega)) rfl))
end Go.Sim.YtefpfeoimgkldaaDoor
