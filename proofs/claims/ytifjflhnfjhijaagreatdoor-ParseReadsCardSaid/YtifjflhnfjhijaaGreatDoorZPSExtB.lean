/- What is proved: the functions of math/bits that the model stands in for yield sums and differences with their carries. -/
import Derived.Test.YtifjflhnfjhijaaGreatDoorZPSWE
import Derived.ProofKit
import Derived.Test.YtifjflhnfjhijaaGreatDoorZPSBig
import Derived.Test.YtifjflhnfjhijaaGreatDoorZPSPureK

namespace Go.Sim.YtifjflhnfjhijaaGreatDoor
open Go.RowKit Go.Proofs Go.Proofs.Tryz
end Go.Sim.YtifjflhnfjhijaaGreatDoor

/- What is proved: functions of the program compute what plain statements tell. -/
namespace Go.Sim.YtifjflhnfjhijaaGreatDoor
open Go.RowKit Go.Proofs Go.Proofs.Tryz
set_option maxRecDepth 100000
def q21 (x1 : Int) (Q : Int -> Prop) : Prop :=
 Call (q6c x1) fun x2 =>
 Let (IntKind.i64.wrap ((64 : Int) - x2)) fun x4 =>
 Q x4
theorem q82 {x1 : Int} {r : Int} (h : q21 x1 (fun r' => r' = r)) : q1w x1 r := by
 unfold q21 at h
 refine intr (L := [(0, .dat (.v (.int .u64 x1)))]) Tryz.func144 Tryz.ntmps144 ?_
 refine sN (pI rfl (dn (AWp.seq (rN (pI rfl (kC h rfl ⟨.inl rfl, trivial⟩ rfl fun x2 h => ?_))))))
 obtain ⟨x4, ex4, h⟩ := h.get
 refine ai ex4 rfl (pI rfl (dn (AWp.ret ?_)))
 subst h
 exact ⟨_, rfl, rfl⟩
def q7d (x1 : Int) (Q : Int -> Prop) : Prop :=
 q3r (fun j5 =>
 Br (decide (x1 >= (4294967296 : Int))) (
 Let (Int.fdiv x1 (2 ^ 32)) fun x6 =>
 j5 x6 (32 : Int)) (
 j5 x1 (0 : Int))
 ) (fun (x3 : Int) (n4 : Int) =>
 q3r (fun j11 =>
 Br (decide (x3 >= (65536 : Int))) (
 Let (Int.fdiv x3 (2 ^ 16)) fun x12 =>
 Let (IntKind.i64.wrap (n4 + (16 : Int))) fun x13 =>
 j11 x12 x13) (
 j11 x3 n4)
 ) (fun (x9 : Int) (n10 : Int) =>
 q3r (fun j18 =>
 Br (decide (x9 >= (256 : Int))) (
 Let (Int.fdiv x9 (2 ^ 8)) fun x19 =>
 Let (IntKind.i64.wrap (n10 + (8 : Int))) fun x20 =>
 j18 x19 x20) (
 j18 x9 n10)
 ) (fun (x16 : Int) (n17 : Int) =>
 Let (IntKind.u8.wrap x16) fun x21 =>
 AtS (ByteArray.mk #[0, 1, 2, 2, 3, 3, 3, 3, 4, 4, 4, 4, 4, 4, 4, 4, 5, 5, 5, 5, 5, 5, 5, 5, 5, 5, 5, 5, 5, 5, 5, 5, 6, 6, 6, 6, 6, 6, 6, 6, 6, 6, 6, 6, 6, 6, 6, 6, 6, 6, 6, 6, 6, 6, 6, 6, 6, 6, 6, 6, 6, 6, 6, 6, 7, 7, 7, 7, 7, 7, 7, 7, 7, 7, 7, 7, 7, 7, 7, 7, 7, 7, 7, 7, 7, 7, 7, 7, 7, 7, 7, 7, 7, 7, 7, 7, 7, 7, 7, 7, 7, 7, 7, 7, 7, 7, 7, 7, 7, 7, 7, 7, 7, 7, 7, 7, 7, 7, 7, 7, 7, 7, 7, 7, 7, 7, 7, 7, 8, 8, 8, 8, 8, 8, 8, 8, 8, 8, 8, 8, 8, 8, 8, 8, 8, 8, 8, 8, 8, 8, 8, 8, 8, 8, 8, 8, 8, 8, 8, 8, 8, 8, 8, 8, 8, 8, 8, 8, 8, 8, 8, 8, 8, 8, 8, 8, 8, 8, 8, 8, 8, 8, 8, 8, 8, 8, 8, 8, 8, 8, 8, 8, 8, 8, 8, 8, 8, 8, 8, 8, 8, 8, 8, 8, 8, 8, 8, 8, 8, 8, 8, 8, 8, 8, 8, 8, 8, 8, 8, 8, 8, 8, 8, 8, 8, 8, 8, 8, 8, 8, 8, 8, 8, 8, 8, 8, 8, 8, 8, 8, 8, 8, 8, 8, 8, 8, 8, 8, 8, 8, 8, 8, 8, 8, 8, 8]) x21 fun x23 =>
 Let (IntKind.i64.wrap x23) fun x25 =>
 Let (IntKind.i64.wrap (n17 + x25)) fun x26 =>
 Q x26)))
theorem qDf {x1 : Int} {r : Int} (h : q7d x1 (fun r' => r' = r)) : q6c x1 r := by
 unfold q7d at h
 refine intr (L := [(0, .dat (.v (.int .u64 x1)))]) Tryz.func159 Tryz.ntmps159 ?_
 refine sN (pI rfl (dn (AWp.seq (AWp.seq (rN (pI rfl (pB rfl (dn ?_))))))))
 obtain ⟨J31, h, hk32⟩ := h
 refine AWp.cutK (I := fun p : Int × Int => mkSt [(0, .dat (.v (.int .u64 p.1))), (2, .dat (.v (.int .i64 p.2)))] []) (Inv := fun p : Int × Int => J31 p.1 p.2) ?_ (fun p hp => ?_)
 ·refine cB h (fun h => ?_) (fun h => ?_)
  ·refine sN (pI rfl ?_)
   obtain ⟨x6, ex6, h⟩ := h.get
   refine AOps.q rfl rfl rfl rfl rfl (q4a (by decide)) ex6 ?_
   refine pI rfl (dn (rN (pI rfl (dn ?_))))
   exact ⟨⟨x6, (32 : Int)⟩, h, sl⟩
  refine AWp.skip ?_
  exact ⟨⟨x1, (0 : Int)⟩, h, sl⟩
 obtain ⟨x3, n4⟩ := p
 replace h := hk32 x3 n4 hp
 refine AWp.seq (AWp.seq (rN (pI rfl (pB rfl (dn ?_)))))
 obtain ⟨J29, h, hk30⟩ := h
 refine AWp.cutK (I := fun p : Int × Int => mkSt [(0, .dat (.v (.int .u64 p.1))), (2, .dat (.v (.int .i64 p.2)))] []) (Inv := fun p : Int × Int => J29 p.1 p.2) ?_ (fun p hp => ?_)
 ·refine cB h (fun h => ?_) (fun h => ?_)
  ·refine sN (pI rfl ?_)
   obtain ⟨x12, ex12, h⟩ := h.get
   refine AOps.q rfl rfl rfl rfl rfl (q4a (by decide)) ex12 ?_
   refine pI rfl (dn (rN (pI rfl ?_)))
   obtain ⟨x13, ex13, h⟩ := h.get
   refine ai ex13 rfl (pI rfl (dn ?_))
   exact ⟨⟨x12, x13⟩, h, sl⟩
  refine AWp.skip ?_
  exact ⟨⟨x3, n4⟩, h, sl⟩
 obtain ⟨x9, n10⟩ := p
 replace h := hk30 x9 n10 hp
 refine AWp.seq (AWp.seq (rN (pI rfl (pB rfl (dn ?_)))))
 obtain ⟨J27, h, hk28⟩ := h
 refine AWp.cutK (I := fun p : Int × Int => mkSt [(0, .dat (.v (.int .u64 p.1))), (2, .dat (.v (.int .i64 p.2)))] []) (Inv := fun p : Int × Int => J27 p.1 p.2) ?_ (fun p hp => ?_)
 ·refine cB h (fun h => ?_) (fun h => ?_)
  ·refine sN (pI rfl ?_)
   obtain ⟨x19, ex19, h⟩ := h.get
   refine AOps.q rfl rfl rfl rfl rfl (q4a (by decide)) ex19 ?_
   refine pI rfl (dn (rN (pI rfl ?_)))
   obtain ⟨x20, ex20, h⟩ := h.get
   refine ai ex20 rfl (pI rfl (dn ?_))
   exact ⟨⟨x19, x20⟩, h, sl⟩
  refine AWp.skip ?_
  exact ⟨⟨x9, n10⟩, h, sl⟩
 obtain ⟨x16, n17⟩ := p
 replace h := hk28 x16 n17 hp
 refine sN (pI rfl (pI rfl ?_))
 obtain ⟨x21, ex21, h⟩ := h.get
 refine ai ex21 rfl ?_
 obtain ⟨hi22, x23, hx24, h⟩ := AtS.get h
 refine AOps.sidxE q01 rfl rfl rfl rfl rfl rfl rfl hi22 hx24 ?_
 obtain ⟨x25, ex25, h⟩ := h.get
 refine ai ex25 rfl ?_
 obtain ⟨x26, ex26, h⟩ := h.get
 refine ai ex26 rfl (pI rfl (dn (AWp.ret ?_)))
 subst h
 exact ⟨_, rfl, rfl⟩
end Go.Sim.YtifjflhnfjhijaaGreatDoor

/- What is proved: one digit of a long division: what is guessed, and how the guess is mended. -/
namespace Go.Sim
open Go.RowKit
theorem qFn {a k : Nat} (h : 2 ^ k <= a) : blen (a / 2 ^ k) + k = blen a := by
 have key : ∀ n, blen a <= n ↔ blen (a / 2 ^ k) + k <= n := by
  intro n
  rw [q2w]
  constructor
  ·intro hn
   have hk : k <= n := by
    rcases Nat.lt_or_ge n k with h' | h'
    ·have := Nat.pow_lt_pow_right (a := 2) (by omega) h'; omega
    ·exact h'
   obtain ⟨j, rfl⟩ := Nat.exists_eq_add_of_le hk
   have := (q2w (a / 2 ^ k) j).2 (Nat.div_lt_of_lt_mul (by rw [← Nat.pow_add]; exact hn))
   omega
  ·intro hn
   obtain ⟨j, rfl⟩ := Nat.exists_eq_add_of_le (show k <= n by omega)
   have := (q2w (a / 2 ^ k) j).1 (by omega)
   have h2 := (Nat.div_lt_iff_lt_mul (Nat.two_pow_pos k)).1 this
   rw [Nat.pow_add, Nat.mul_comm]
   exact h2
 have a1 := (key _).1 (Nat.le_refl _)
 have a2 := (key _).2 (Nat.le_refl _)
 omega
def tabB (s : ByteArray) : Bool := (List.range 256).all fun x => match s[x]? with | some b => decide (x < 2 ^ b.toNat) && (decide (b.toNat = 0) || decide (2 ^ (b.toNat - 1) <= x)) | none => false
theorem qXw {s : ByteArray} (h : tabB s = true) {x : Nat} (hx : x < 256) : ∃ b, s[((x : Nat) : Int).toNat]? = some b /\ (b.toNat : Int) = ((blen x : Nat) : Int) := by
 have := List.all_eq_true.1 h x (by simpa using hx)
 rw [Int.toNat_natCast]
 split at this
 ·rename_i b hb
  refine ⟨b, hb, ?_⟩
  simp only [Bool.and_eq_true, Bool.or_eq_true, decide_eq_true_eq] at this
  obtain ⟨h1, h2⟩ := this
  have h3 := (q2w x _).2 h1
  rcases h2 with h2 | h2
  ·omega
  ·have h4 : ¬ (blen x <= b.toNat - 1) := fun hh => by have := (q2w x _).1 hh; omega
   omega
 ·cases this
structure DivF (hi lo y s Y y1 y0 U l u1 u0 : Nat) : Prop where
 hs : s = 64 - blen y
 hs64 : s < 64
 hY : Y = y * 2 ^ s
 hYlo : 9223372036854775808 <= Y
 hYhi : Y < 18446744073709551616
 hy1 : y1 = Y / 4294967296
 hy0 : y0 = Y % 4294967296
 hU : U = lo / 2 ^ (64 - s) + hi * 2 ^ s
 hc : lo / 2 ^ (64 - s) < 2 ^ s
 hx : hi * 2 ^ s < 18446744073709551616
 hUY : U < Y
 hl : l = lo * 2 ^ s % 18446744073709551616
 hu1 : u1 = l / 4294967296
 hu0 : u0 = l % 4294967296
end Go.Sim

/- What is proved: 128 bits divided by 64 bits: math/bits.Div64 and Rem64 yield the quotient and the rest. -/
namespace Go.Sim.YtifjflhnfjhijaaGreatDoor
open Go.RowKit Go.Proofs Go.Proofs.Tryz
theorem shrC (a k : Nat) : Int.fdiv (a : Int) (2 ^ k) = ((a / 2 ^ k : Nat) : Int) := by
 rw [Int.fdiv_eq_ediv_of_nonneg _ (Int.pow_nonneg (by omega))]
 simp
theorem z06 {s : ByteArray} (h : tabB s = true) {x : Nat} (hx : x < 256) {k : Int -> Prop} (hk : k ((blen x : Nat) : Int)) : AtS s (x : Int) k := by
 obtain ⟨b, hb, e⟩ := qXw h hx
 exact ⟨by omega, b, hb, by rw [e]; exact hk⟩
theorem qTb (a : Nat) (ha : a < 18446744073709551616) : q6c (a : Int) ((blen a : Nat) : Int) := by
 refine qDf ?_
 unfold q7d
 refine ⟨fun x n => ∃ b m : Nat, x = (b : Int) /\ n = (m : Int) /\ b < 4294967296 /\ blen b + m = blen a /\ m <= 32, Br.d (fun g => Let.as _ (shrC a 32) ⟨_, 32, rfl, rfl, by omega, qFn (k := 32) (by simp only [Nat.reducePow]; omega), by omega⟩) (fun g => ⟨a, 0, rfl, rfl, by omega, by simp, by omega⟩), ?_⟩
 rintro _ _ ⟨x, n, rfl, rfl, k1, k2, k3⟩
 refine ⟨fun y m => ∃ b c : Nat, y = (b : Int) /\ m = (c : Int) /\ b < 65536 /\ blen b + c = blen a /\ c <= 48, Br.d (fun g => Let.as _ (shrC x 16) (Let.as _ (show _ = ((n + 16 : Nat) : Int) by rw [wi (by omega) (by omega)]; omega) ⟨_, _, rfl, rfl, by omega, by rw [← k2, ← qFn (a := x) (k := 16) (by simp only [Nat.reducePow]; omega)]; omega, by omega⟩)) (fun g => ⟨x, n, rfl, rfl, by omega, k2, by omega⟩), ?_⟩
 rintro _ _ ⟨y, m, rfl, rfl, k1, k2, k3⟩
 refine ⟨fun z l => ∃ b c : Nat, z = (b : Int) /\ l = (c : Int) /\ b < 256 /\ blen b + c = blen a /\ c <= 56, Br.d (fun g => Let.as _ (shrC y 8) (Let.as _ (show _ = ((m + 8 : Nat) : Int) by rw [wi (by omega) (by omega)]; omega) ⟨_, _, rfl, rfl, by omega, by rw [← k2, ← qFn (a := y) (k := 8) (by simp only [Nat.reducePow]; omega)]; omega, by omega⟩)) (fun g => ⟨y, m, rfl, rfl, by omega, k2, by omega⟩), ?_⟩
 rintro _ _ ⟨z, l, rfl, rfl, k1, k2, k3⟩
 have hz := (q2w z 8).2 k1
 refine Let.as (z : Int) (by rw [IntKind.wrap_u8]; omega) ?_
 refine z06 (by decide +kernel) k1 ?_
 refine Let.as ((blen z : Nat) : Int) (wi (by omega) (by omega)) ?_
 refine Let.as ((blen a : Nat) : Int) (by rw [wi (by omega) (by omega)]; omega) rfl
theorem qVf (a : Nat) (ha : a < 18446744073709551616) : q1w (a : Int) ((64 - blen a : Nat) : Int) := by
 have hb := (q2w a 64).2 (by simpa using ha)
 refine q82 ?_
 unfold q21
 refine Call.mk (qTb a ha) (Let.as _ (show _ = ((64 - blen a : Nat) : Int) by rw [wi (by omega) (by omega)]; omega) rfl)
end Go.Sim.YtifjflhnfjhijaaGreatDoor

/- What is proved: what the functions of numbers compute (the program's: right, size, gcd, made, products, quotients), in words of the printed statements. -/
namespace Go.Sim.YtifjflhnfjhijaaGreatDoor
open Go.RowKit Go.Proofs Go.Proofs.Tryz
abbrev toR (r : (Int × Int) × Int) : GRat × Int := (⟨r.1.1, r.1.2⟩, r.2)
def GRat.inI (a : GRat) : Prop := Sim.inI a.N /\ Sim.inI a.D
def GRat.right (a : GRat) : Bool := qM0 a.N a.D
theorem GRat.right_spec {a : GRat} : a.right = true ↔ 1 <= a.D /\ a.N ≠ -9223372036854775808 /\ Nat.gcd a.N.natAbs a.D.natAbs = 1 := qNg
theorem qM5 (a : Nat) : Int.fdiv (a : Int) (2 ^ 32) = ((a / 4294967296 : Nat) : Int) := by rw [shrC]
theorem qTc (a b : Nat) (ha : a < 18446744073709551616) (hb : b < 18446744073709551616) : q6b (a : Int) (b : Int) (((a * b / 18446744073709551616 : Nat) : Int), ((a * b % 18446744073709551616 : Nat) : Int)) := by
 obtain ⟨x0, hx0⟩ : ∃ x0, x0 = a % 4294967296 := ⟨_, rfl⟩
 obtain ⟨x1, hx1⟩ : ∃ x1, x1 = a / 4294967296 := ⟨_, rfl⟩
 obtain ⟨y0, hy0⟩ : ∃ y0, y0 = b % 4294967296 := ⟨_, rfl⟩
 obtain ⟨y1, hy1⟩ : ∃ y1, y1 = b / 4294967296 := ⟨_, rfl⟩
 have b00 : x0 * y0 <= 4294967295 * 4294967295 := Nat.mul_le_mul (by omega) (by omega)
 have b10 : x1 * y0 <= 4294967295 * 4294967295 := Nat.mul_le_mul (by omega) (by omega)
 have b01 : x0 * y1 <= 4294967295 * 4294967295 := Nat.mul_le_mul (by omega) (by omega)
 have b11 : x1 * y1 <= 4294967295 * 4294967295 := Nat.mul_le_mul (by omega) (by omega)
 obtain ⟨w0, hw0⟩ : ∃ w0, w0 = x0 * y0 := ⟨_, rfl⟩
 obtain ⟨t, ht⟩ : ∃ t, t = x1 * y0 + w0 / 4294967296 := ⟨_, rfl⟩
 obtain ⟨w1, hw1⟩ : ∃ w1, w1 = t % 4294967296 + x0 * y1 := ⟨_, rfl⟩
 have hres := qT9 (a := a) (b := b) (x0 := x0) (x1 := x1) (y0 := y0) (y1 := y1) (by omega) (by omega) hw0 ht hw1
 refine qDe ?_
 unfold q7c
 refine Let.as (x0 : Int) (by rw [qVb ha, hx0]) (Let.as (x1 : Int) (by rw [qM5, hx1]) (Let.as (y0 : Int) (by rw [qVb hb, hy0]) (Let.as (y1 : Int) (by rw [qM5, hy1]) ?_)))
 refine Let.as (w0 : Int) (by rw [← Int.natCast_mul, wu (by omega) (by omega), hw0]) (Let.as ((x1 * y0 : Nat) : Int) (by rw [← Int.natCast_mul, wu (by omega) (by omega)]) (Let.as _ (qM5 w0) (Let.as (t : Int) (by rw [wu (by omega) (by omega)]; omega) ?_)))
 refine Let.as ((t % 4294967296 : Nat) : Int) (qVb (by omega)) (Let.as _ (qM5 t) (Let.as ((x0 * y1 : Nat) : Int) (by rw [← Int.natCast_mul, wu (by omega) (by omega)]) (Let.as (w1 : Int) (by rw [wu (by omega) (by omega)]; omega) ?_)))
 refine Let.as ((x1 * y1 : Nat) : Int) (by rw [← Int.natCast_mul, wu (by omega) (by omega)]) (Let.as ((x1 * y1 + t / 4294967296 : Nat) : Int) (by rw [wu (by omega) (by omega)]; omega) (Let.as _ (qM5 w1) (Let.as ((a * b / 18446744073709551616 : Nat) : Int) (by rw [← hres, wu (by omega) (by omega)]; omega) ?_)))
 exact Let.as _ (by rw [← Int.natCast_mul, wuN]) rfl
theorem wuM (n : Int) : IntKind.u64.wrap n = n % 18446744073709551616 := by simp only [IntKind.wrap, IntKind.bits, IntKind.signed, Bool.false_and, Bool.false_eq_true, if_false]; omega
theorem qHf {n : Int} (h : Sim.inI n) : q78 n ((n.natAbs : Nat) : Int) := by
 unfold Sim.inI at h
 refine qKv ?_
 unfold qFk
 refine Br.d (fun a => Let.as (n + 18446744073709551616) (by rw [wuM]; omega) (Let.as ((n.natAbs : Nat) : Int) (by rw [wuM]; omega) rfl)) (fun a => Let.as ((n.natAbs : Nat) : Int) (by rw [wuM]; omega) rfl)
theorem qUd (a b : Nat) : qD3 (a : Int) (b : Int) ((Nat.gcd a b : Nat) : Int) := by
 refine qM4 ?_
 unfold qIa
 refine ⟨fun x y => ∃ m n : Nat, x = (m : Int) /\ y = (n : Int) /\ Nat.gcd m n = Nat.gcd a b, fun _ y => y.toNat, ⟨a, b, rfl, rfl, rfl⟩, ?_⟩
 rintro _ _ ⟨m, n, rfl, rfl, hg⟩
 refine Br.d (fun h => ⟨by omega, Let.as ((m % n : Nat) : Int) rfl ⟨⟨n, m % n, rfl, rfl, by rw [← hg, Nat.gcd_comm n, ← Nat.gcd_rec, Nat.gcd_comm]⟩, ?_⟩⟩) (fun h => ?_)
 ·have := Nat.mod_lt m (show n > 0 by omega)
  simp only [Int.toNat_natCast]; exact this
 ·have : n = 0 := by omega
  subst this
  rw [Nat.gcd_zero_right] at hg
  rw [← hg]
theorem qXx (a b : Nat) : Int.tdiv (a : Int) (b : Int) = ((a / b : Nat) : Int) := rfl
theorem qTd {a : GRat} (h : a.inI) : q43 a a.right := by
 have hN := h.1
 have hD := h.2
 refine qJt ?_
 unfold qE1
 unfold GRat.right qM0
 refine Br.d (fun c => Br.d (fun d => Call.mk (qHf hN) (Call.mk (qHf hD) (Call.mk (qUd _ _) ?_))) (fun d => ?_)) (fun c => ?_)
 ·show _ = _
  rw [decide_eq_true (show 1 <= a.D from c), decide_eq_true (show a.N ≠ -9223372036854775808 by omega)]
  simp only [Bool.true_and]
  by_cases e : Nat.gcd a.N.natAbs a.D.natAbs = 1
  ·rw [e]; rfl
  ·rw [beq_eq_false_iff_ne.2 e, beq_eq_false_iff_ne]; omega
 ·unfold Sim.inI at hN
  rw [decide_eq_false (show ¬ a.N ≠ -9223372036854775808 by omega)]; simp
 ·rw [decide_eq_false (show ¬ 1 <= a.D from c)]; simp
theorem qR9 (s : Bool) (n d : Nat) (hn : n < 18446744073709551616) (hd : d < 18446744073709551616) (hd0 : d ≠ 0) : qAj s (n : Int) (d : Int) (toR (q4d s n d)) := by
 have hg : 0 < Nat.gcd n d := Nat.gcd_pos_of_pos_right _ (by omega)
 have h1 : n / Nat.gcd n d <= n := Nat.div_le_self _ _
 have h2 : d / Nat.gcd n d <= d := Nat.div_le_self _ _
 refine qKw ?_
 unfold qFl
 refine Call.mk (qUd n d) ⟨by omega, Let.as _ (by rw [qXx, wu (Int.natCast_nonneg _) (by omega)]) ⟨by omega, Let.as _ (by rw [qXx, wu (Int.natCast_nonneg _) (by omega)]) ?_⟩⟩
 unfold q4d
 generalize n / Nat.gcd n d = x at h1 ⊢
 generalize d / Nat.gcd n d = y at h2 ⊢
 refine Br.d (fun c => ?_) (fun c => Br.d (fun e => ?_) (fun e => ?_))
 ·rw [if_neg (by omega)]
 ·rw [if_neg (by omega)]
 ·rw [if_pos (by omega)]
  cases s with
  | true => exact Br.t rfl (Let.as (x : Int) (wi (by omega) (by omega)) (Let.as (-(x : Int)) (by rw [wi (by omega) (by omega)]; omega) (Let.as (y : Int) (wi (by omega) (by omega)) rfl)))
  | false => exact Br.f rfl (Let.as (x : Int) (wi (by omega) (by omega)) (Let.as (y : Int) (wi (by omega) (by omega)) rfl))
end Go.Sim.YtifjflhnfjhijaaGreatDoor

/- What is proved: which nodes may be, by themselves, as the program tells. -/
namespace Go.Sim.YtifjflhnfjhijaaGreatDoor
open Go.RowKit Go.Proofs Go.Proofs.Tryz
structure Sp where
 hasN : Bool
 hasA : Bool
 hasF : Bool
 lo : Int
 hi : Int
 m : Int
 kids : List GTree -> Bool
 num : GRat -> Bool
def many (p : GTree -> Bool) (ks : List GTree) : Bool := ks.all p
def decB (r : GRat) : Bool := r.right && decide (0 <= r.N) && (Int.tmod 1000000000000000000 r.D == 0)
theorem qM6 (a : GRat) : GRat.beq a a = true := (GRat.beq_iff a a).2 rfl
theorem qIb (hr : ∀ a : GRat, a.ok -> q43 a a.right) {a : GRat} (ha : a.ok) (hd : a.right = true -> a.D ≠ 0) : q81 a (decB a) := by
 refine qEp ?_
 unfold q8x decB
 refine Call.mk (hr a ha) ⟨fun h => Br.d (fun h2 => ⟨hd h, Let.it ?_⟩) (fun h2 => ?_), fun h => ?_⟩
 ·show _ = _; rw [h, decide_eq_true (show (0 : Int) <= _ from h2)]; rfl
 ·show _ = _; rw [decide_eq_false (show ¬ (0 : Int) <= _ from h2)]; simp
 ·show _ = _; rw [h]; rfl
end Go.Sim.YtifjflhnfjhijaaGreatDoor
