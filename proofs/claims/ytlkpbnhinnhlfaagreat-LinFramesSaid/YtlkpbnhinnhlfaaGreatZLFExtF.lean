/- What is proved: a float's bits, and the float of bits. -/
import Derived.Test.YtlkpbnhinnhlfaaGreatZLFWE
import Derived.ProofKit
import Derived.Test.YtlkpbnhinnhlfaaGreatZLFBig

namespace Go.Sim.YtlkpbnhinnhlfaaGreat
open Go.RowKit Go.Proofs Go.Proofs.Tryz
theorem float64bits_ev (b : Nat) : Ev_math_Float64bits b (b : Int) := by
  refine ⟨.int .u64 b, fun w => ?_, fun w S => by simp [RepV, RepD, Value.oneCell']⟩
  rw [run_callFunc_extern Tryz.func69 (by kernel_rfl) (by kernel_rfl) (by kernel_rfl) (e := Extern.MathFloatBits.float64bits) (by kernel_rfl)]
  rfl
theorem float64frombits_ev (b : Nat) : Ev_math_Float64frombits (b : Int) b := by
  refine ⟨.float .f64 b, fun w => ?_, fun w S => by simp [RepV, RepD, Value.oneCell']⟩
  rw [run_callFunc_extern Tryz.func72 (by kernel_rfl) (by kernel_rfl) (by kernel_rfl) (e := Extern.MathFloatBits.float64frombits) (by kernel_rfl)]
  rfl
end Go.Sim.YtlkpbnhinnhlfaaGreat

/- What is proved: the functions of math/bits that the model stands in for yield sums and differences with their carries. -/
namespace Go.Sim.YtlkpbnhinnhlfaaGreat
open Go.RowKit Go.Proofs Go.Proofs.Tryz
def addEntry : Array Value → Sem Value := fun args => do
  let (x, y, c) ← Extern.MathBitsCarry.three "Add64" args
  pure (Extern.MathBitsCarry.pair ((x + y + c) % Extern.MathBitsCarry.m64) ((x + y + c) / Extern.MathBitsCarry.m64))
def subEntry : Array Value → Sem Value := fun args => do
  let (x, y, b) ← Extern.MathBitsCarry.three "Sub64" args
  pure (Extern.MathBitsCarry.pair ((x + Extern.MathBitsCarry.m64 - y - b) % Extern.MathBitsCarry.m64) (if x < y + b then 1 else 0))
theorem rep_two (w : World) (S : Nat → Prop) (a b : Int) : RepV w S (.tup [.v (.int .u64 a), .v (.int .u64 b)]) (.tuple #[.int .u64 a, .int .u64 b]) :=
  ⟨[.int .u64 a, .int .u64 b], rfl, .cons (.inr ⟨rfl, rfl, rfl⟩) (.cons (.inr ⟨rfl, rfl, rfl⟩) .nil)⟩
theorem add64_ev (x y c : Nat) (hc : c ≤ 1) : Ev_math_bits_Add64 (x : Int) (y : Int) (c : Int) ((((x + y + c) % 18446744073709551616 : Nat) : Int), (((x + y + c) / 18446744073709551616 : Nat) : Int)) := by
  refine ⟨.tuple #[.int .u64 (((x + y + c) % 18446744073709551616 : Nat) : Int), .int .u64 (((x + y + c) / 18446744073709551616 : Nat) : Int)], fun w => ?_, fun w S => rep_two w S _ _⟩
  rw [run_callFunc_extern Tryz.func130 (by kernel_rfl) (by kernel_rfl) (by kernel_rfl) (e := addEntry) (by kernel_rfl)]
  have : c = 0 ∨ c = 1 := by omega
  rcases this with rfl | rfl <;> rfl
theorem sub64_ev (x y c : Nat) (hc : c ≤ 1) : Ev_math_bits_Sub64 (x : Int) (y : Int) (c : Int) ((((x + 18446744073709551616 - y - c) % 18446744073709551616 : Nat) : Int), ((if x < y + c then 1 else 0 : Nat) : Int)) := by
  refine ⟨.tuple #[.int .u64 (((x + 18446744073709551616 - y - c) % 18446744073709551616 : Nat) : Int), .int .u64 ((if x < y + c then 1 else 0 : Nat) : Int)], fun w => ?_, fun w S => rep_two w S _ _⟩
  rw [run_callFunc_extern Tryz.func131 (by kernel_rfl) (by kernel_rfl) (by kernel_rfl) (e := subEntry) (by kernel_rfl)]
  have : c = 0 ∨ c = 1 := by omega
  rcases this with rfl | rfl <;> rfl
end Go.Sim.YtlkpbnhinnhlfaaGreat

/- What is proved: functions of the program compute what plain statements tell. -/
namespace Go.Sim.YtlkpbnhinnhlfaaGreat
open Go.RowKit Go.Proofs Go.Proofs.Tryz
set_option maxRecDepth 100000
def W_math_bits_Len64 (x1 : Int) (Q : Int → Prop) : Prop :=
 Join2 (fun j5 =>
  Br (decide (x1 ≥ (4294967296 : Int))) (
   Let (Int.fdiv x1 (2 ^ 32)) fun x6 =>
   j5 x6 (32 : Int)) (
   j5 x1 (0 : Int))
 ) (fun (x3 : Int) (n4 : Int) =>
  Join2 (fun j11 =>
   Br (decide (x3 ≥ (65536 : Int))) (
    Let (Int.fdiv x3 (2 ^ 16)) fun x12 =>
    Let (IntKind.i64.wrap (n4 + (16 : Int))) fun x13 =>
    j11 x12 x13) (
    j11 x3 n4)
  ) (fun (x9 : Int) (n10 : Int) =>
   Join2 (fun j18 =>
    Br (decide (x9 ≥ (256 : Int))) (
     Let (Int.fdiv x9 (2 ^ 8)) fun x19 =>
     Let (IntKind.i64.wrap (n10 + (8 : Int))) fun x20 =>
     j18 x19 x20) (
     j18 x9 n10)
   ) (fun (x16 : Int) (n17 : Int) =>
    Let (IntKind.u8.wrap x16) fun x21 =>
    AtS (ByteArray.mk #[0, 1, 2, 2, 3, 3, 3, 3, 4, 4, 4, 4, 4, 4, 4, 4, 5, 5, 5, 5, 5, 5, 5, 5, 5, 5, 5, 5, 5, 5, 5, 5, 6, 6, 6, 6, 6, 6, 6, 6, 6, 6, 6, 6, 6, 6, 6, 6, 6, 6, 6, 6, 6, 6, 6, 6, 6, 6, 6, 6, 6, 6, 6, 6, 7, 7, 7, 7, 7, 7, 7, 7, 7, 7, 7, 7, 7, 7, 7, 7, 7, 7, 7, 7, 7, 7, 7, 7, 7, 7, 7, 7, 7, 7, 7, 7, 7, 7, 7, 7, 7, 7, 7, 7, 7, 7, 7, 7, 7, 7, 7, 7, 7, 7, 7, 7, 7, 7, 7, 7, 7, 7, 7, 7, 7, 7, 7, 7, 8, 8, 8, 8, 8, 8, 8, 8, 8, 8, 8, 8, 8, 8, 8, 8, 8, 8, 8, 8, 8, 8, 8, 8, 8, 8, 8, 8, 8, 8, 8, 8, 8, 8, 8, 8, 8, 8, 8, 8, 8, 8, 8, 8, 8, 8, 8, 8, 8, 8, 8, 8, 8, 8, 8, 8, 8, 8, 8, 8, 8, 8, 8, 8, 8, 8, 8, 8, 8, 8, 8, 8, 8, 8, 8, 8, 8, 8, 8, 8, 8, 8, 8, 8, 8, 8, 8, 8, 8, 8, 8, 8, 8, 8, 8, 8, 8, 8, 8, 8, 8, 8, 8, 8, 8, 8, 8, 8, 8, 8, 8, 8, 8, 8, 8, 8, 8, 8, 8, 8, 8, 8, 8, 8, 8, 8, 8, 8]) x21 fun x23 =>
    Let (IntKind.i64.wrap x23) fun x25 =>
    Let (IntKind.i64.wrap (n17 + x25)) fun x26 =>
    Q x26)))
theorem walk_math_bits_Len64 {x1 : Int} {r : Int} (h : W_math_bits_Len64 x1 (fun r' => r' = r)) : Ev_math_bits_Len64 x1 r := by
  unfold W_math_bits_Len64 at h
  refine intr (L := [(0, .dat (.v (.int .u64 x1)))]) Tryz.func112 Tryz.ntmps112 ?_
  refine sN (pI rfl (dn (AWp.seq (AWp.seq (rN (pI rfl (pB rfl (dn ?_))))))))
  obtain ⟨J31, h, hk32⟩ := h
  refine AWp.cutK (I := fun p : Int × Int => mkSt [(0, .dat (.v (.int .u64 p.1))), (2, .dat (.v (.int .i64 p.2)))] []) (Inv := fun p : Int × Int => J31 p.1 p.2) ?_ (fun p hp => ?_)
  · refine cB h (fun h => ?_) (fun h => ?_)
    · refine sN (pI rfl ?_)
      obtain ⟨x6, ex6, h⟩ := h.get
      refine AOps.q rfl rfl rfl rfl rfl (rbin_shr (by decide)) ex6 ?_
      refine pI rfl (dn (rN (pI rfl (dn ?_))))
      exact ⟨⟨x6, (32 : Int)⟩, h, sl⟩
    refine AWp.skip ?_
    exact ⟨⟨x1, (0 : Int)⟩, h, sl⟩
  obtain ⟨x3, n4⟩ := p
  replace h := hk32 x3 n4 hp
  refine AWp.seq (AWp.seq (rN (pI rfl (pB rfl (dn ?_)))))
  obtain ⟨J29, h, hk30⟩ := h
  refine AWp.cutK (I := fun p : Int × Int => mkSt [(0, .dat (.v (.int .u64 p.1))), (2, .dat (.v (.int .i64 p.2)))] []) (Inv := fun p : Int × Int => J29 p.1 p.2) ?_ (fun p hp => ?_)
  · refine cB h (fun h => ?_) (fun h => ?_)
    · refine sN (pI rfl ?_)
      obtain ⟨x12, ex12, h⟩ := h.get
      refine AOps.q rfl rfl rfl rfl rfl (rbin_shr (by decide)) ex12 ?_
      refine pI rfl (dn (rN (pI rfl ?_)))
      obtain ⟨x13, ex13, h⟩ := h.get
      refine ai ex13 rfl (pI rfl (dn ?_))
      exact ⟨⟨x12, x13⟩, h, sl⟩
    refine AWp.skip ?_
    exact ⟨⟨x3, n4⟩, h, sl⟩
  obtain ⟨x9, n10⟩ := p
  replace h := hk30 x9 n10 hp
  refine AWp.seq (AWp.seq (rN (pI rfl (pB rfl (dn ?_)))))
  obtain ⟨J27, h, hk28⟩ := h
  refine AWp.cutK (I := fun p : Int × Int => mkSt [(0, .dat (.v (.int .u64 p.1))), (2, .dat (.v (.int .i64 p.2)))] []) (Inv := fun p : Int × Int => J27 p.1 p.2) ?_ (fun p hp => ?_)
  · refine cB h (fun h => ?_) (fun h => ?_)
    · refine sN (pI rfl ?_)
      obtain ⟨x19, ex19, h⟩ := h.get
      refine AOps.q rfl rfl rfl rfl rfl (rbin_shr (by decide)) ex19 ?_
      refine pI rfl (dn (rN (pI rfl ?_)))
      obtain ⟨x20, ex20, h⟩ := h.get
      refine ai ex20 rfl (pI rfl (dn ?_))
      exact ⟨⟨x19, x20⟩, h, sl⟩
    refine AWp.skip ?_
    exact ⟨⟨x9, n10⟩, h, sl⟩
  obtain ⟨x16, n17⟩ := p
  replace h := hk28 x16 n17 hp
  refine sN (pI rfl (pI rfl ?_))
  obtain ⟨x21, ex21, h⟩ := h.get
  refine ai ex21 rfl ?_
  obtain ⟨hi22, x23, hx24, h⟩ := AtS.get h
  refine AOps.sidxE tabOk rfl rfl rfl rfl rfl rfl rfl hi22 hx24 ?_
  obtain ⟨x25, ex25, h⟩ := h.get
  refine ai ex25 rfl ?_
  obtain ⟨x26, ex26, h⟩ := h.get
  refine ai ex26 rfl (pI rfl (dn (AWp.ret ?_)))
  subst h
  exact ⟨_, rfl, rfl⟩
end Go.Sim.YtlkpbnhinnhlfaaGreat

/- What is proved: one digit of a long division: what is guessed, and how the guess is mended. -/
namespace Go.Sim
open Go.RowKit
theorem blen_shift {a k : Nat} (h : 2 ^ k ≤ a) : blen (a / 2 ^ k) + k = blen a := by
  have key : ∀ n, blen a ≤ n ↔ blen (a / 2 ^ k) + k ≤ n := by
    intro n
    rw [blen_le]
    constructor
    · intro hn
      have hk : k ≤ n := by
        rcases Nat.lt_or_ge n k with h' | h'
        · have := Nat.pow_lt_pow_right (a := 2) (by omega) h'; omega
        · exact h'
      obtain ⟨j, rfl⟩ := Nat.exists_eq_add_of_le hk
      have := (blen_le (a / 2 ^ k) j).2 (Nat.div_lt_of_lt_mul (by rw [← Nat.pow_add]; exact hn))
      omega
    · intro hn
      obtain ⟨j, rfl⟩ := Nat.exists_eq_add_of_le (show k ≤ n by omega)
      have := (blen_le (a / 2 ^ k) j).1 (by omega)
      have h2 := (Nat.div_lt_iff_lt_mul (Nat.two_pow_pos k)).1 this
      rw [Nat.pow_add, Nat.mul_comm]
      exact h2
  have a1 := (key _).1 (Nat.le_refl _)
  have a2 := (key _).2 (Nat.le_refl _)
  omega
/-- A table of how many bits the numbers of 8 bits have. -/
def tabB (s : ByteArray) : Bool := (List.range 256).all fun x => match s[x]? with | some b => decide (x < 2 ^ b.toNat) && (decide (b.toNat = 0) || decide (2 ^ (b.toNat - 1) ≤ x)) | none => false
theorem tab_at {s : ByteArray} (h : tabB s = true) {x : Nat} (hx : x < 256) : ∃ b, s[((x : Nat) : Int).toNat]? = some b ∧ (b.toNat : Int) = ((blen x : Nat) : Int) := by
  have := List.all_eq_true.1 h x (by simpa using hx)
  rw [Int.toNat_natCast]
  split at this
  · rename_i b hb
    refine ⟨b, hb, ?_⟩
    simp only [Bool.and_eq_true, Bool.or_eq_true, decide_eq_true_eq] at this
    obtain ⟨h1, h2⟩ := this
    have h3 := (blen_le x _).2 h1
    rcases h2 with h2 | h2
    · omega
    · have h4 : ¬ (blen x ≤ b.toNat - 1) := fun hh => by have := (blen_le x _).1 hh; omega
      omega
  · cases this
theorem shlN (a s : Nat) (hs : s ≤ 64) : IntKind.u64.wrap ((a : Int) * 2 ^ (min ((s : Nat) : Int).toNat IntKind.u64.bits)) = ((a * 2 ^ s % 18446744073709551616 : Nat) : Int) := by
  have e : min ((s : Nat) : Int).toNat IntKind.u64.bits = s := by simp [IntKind.bits]; omega
  have h3 : ((a : Int) * 2 ^ s) = ((a * 2 ^ s : Nat) : Int) := by simp
  rw [e, h3, wuN]
theorem shrN (a s : Nat) (hs : s ≤ 64) : Int.fdiv (a : Int) (2 ^ (min ((s : Nat) : Int).toNat IntKind.u64.bits)) = ((a / 2 ^ s : Nat) : Int) := by
  have e : min ((s : Nat) : Int).toNat IntKind.u64.bits = s := by simp [IntKind.bits]; omega
  rw [e, Int.fdiv_eq_ediv_of_nonneg _ (Int.pow_nonneg (by omega))]
  simp
/-- What long division sets out with. -/
structure DivF (hi lo y s Y y1 y0 U l u1 u0 : Nat) : Prop where
  hs : s = 64 - blen y
  hs64 : s < 64
  hY : Y = y * 2 ^ s
  hYlo : 9223372036854775808 ≤ Y
  hYhi : Y < 18446744073709551616
  hy1 : y1 = Y / 4294967296
  hy0 : y0 = Y % 4294967296
  hU : U = lo / 2 ^ (64 - s) + hi * 2 ^ s
  hc : lo / 2 ^ (64 - s) < 2 ^ s
  hx : hi * 2 ^ s < 18446744073709551616
  hUY : U < Y
  hl : l = lo * 2 ^ s % 18446744073709551616
  hu1 : u1 = l / 4294967296
  hu0 : u0 = l % 4294967296
end Go.Sim

/- What is proved: 128 bits divided by 64 bits: math/bits.Div64 and Rem64 yield the quotient and the rest. -/
namespace Go.Sim.YtlkpbnhinnhlfaaGreat
open Go.RowKit Go.Proofs Go.Proofs.Tryz
theorem shrC (a k : Nat) : Int.fdiv (a : Int) (2 ^ k) = ((a / 2 ^ k : Nat) : Int) := by
  rw [Int.fdiv_eq_ediv_of_nonneg _ (Int.pow_nonneg (by omega))]
  simp
theorem tab_k {s : ByteArray} (h : tabB s = true) {x : Nat} (hx : x < 256) {k : Int → Prop} (hk : k ((blen x : Nat) : Int)) : AtS s (x : Int) k := by
  obtain ⟨b, hb, e⟩ := tab_at h hx
  exact ⟨by omega, b, hb, by rw [e]; exact hk⟩
theorem len64_ev (a : Nat) (ha : a < 18446744073709551616) : Ev_math_bits_Len64 (a : Int) ((blen a : Nat) : Int) := by
  refine walk_math_bits_Len64 ?_
  unfold W_math_bits_Len64
  refine ⟨fun x n => ∃ b m : Nat, x = (b : Int) ∧ n = (m : Int) ∧ b < 4294967296 ∧ blen b + m = blen a ∧ m ≤ 32, Br.d (fun g => Let.as _ (shrC a 32) ⟨_, 32, rfl, rfl, by omega, blen_shift (k := 32) (by simp only [Nat.reducePow]; omega), by omega⟩) (fun g => ⟨a, 0, rfl, rfl, by omega, by simp, by omega⟩), ?_⟩
  rintro _ _ ⟨x, n, rfl, rfl, k1, k2, k3⟩
  refine ⟨fun y m => ∃ b c : Nat, y = (b : Int) ∧ m = (c : Int) ∧ b < 65536 ∧ blen b + c = blen a ∧ c ≤ 48, Br.d (fun g => Let.as _ (shrC x 16) (Let.as _ (show _ = ((n + 16 : Nat) : Int) by rw [wi (by omega) (by omega)]; omega) ⟨_, _, rfl, rfl, by omega, by rw [← k2, ← blen_shift (a := x) (k := 16) (by simp only [Nat.reducePow]; omega)]; omega, by omega⟩)) (fun g => ⟨x, n, rfl, rfl, by omega, k2, by omega⟩), ?_⟩
  rintro _ _ ⟨y, m, rfl, rfl, k1, k2, k3⟩
  refine ⟨fun z l => ∃ b c : Nat, z = (b : Int) ∧ l = (c : Int) ∧ b < 256 ∧ blen b + c = blen a ∧ c ≤ 56, Br.d (fun g => Let.as _ (shrC y 8) (Let.as _ (show _ = ((m + 8 : Nat) : Int) by rw [wi (by omega) (by omega)]; omega) ⟨_, _, rfl, rfl, by omega, by rw [← k2, ← blen_shift (a := y) (k := 8) (by simp only [Nat.reducePow]; omega)]; omega, by omega⟩)) (fun g => ⟨y, m, rfl, rfl, by omega, k2, by omega⟩), ?_⟩
  rintro _ _ ⟨z, l, rfl, rfl, k1, k2, k3⟩
  have hz := (blen_le z 8).2 k1
  refine Let.as (z : Int) (by rw [IntKind.wrap_u8]; omega) ?_
  refine tab_k (by decide +kernel) k1 ?_
  refine Let.as ((blen z : Nat) : Int) (wi (by omega) (by omega)) ?_
  refine Let.as ((blen a : Nat) : Int) (by rw [wi (by omega) (by omega)]; omega) rfl
end Go.Sim.YtlkpbnhinnhlfaaGreat
-- seatfit
