/- What is proved: steps with function values that are not known. -/
import Derived.Test.YtnnfiohdkobkdaaGreatDoorZZPLSimK
import Derived.Test.YtnnfiohdkobkdaaGreatDoorZZPLSimC

namespace Go.Sim
open Go.RowKit
/-- It lies in one cell, and is no nil slice. -/
def IsFn (d : DV) : Prop := (((AV.dat d).lies && Nat.beq d.len 1) = true) ∧ d.agg = false ∧ d ≠ .v (.slice none 0 0)
theorem IsFn.lies {d : DV} (h : IsFn d) : (AV.dat d).lies = true := by
  have := h.1
  simp only [Bool.and_eq_true] at this
  exact this.1
theorem IsFn.len {d : DV} (h : IsFn d) : (AV.dat d).len = 1 := by
  have := h.1
  simp only [Bool.and_eq_true] at this
  exact Nat.eq_of_beq_eq_true this.2
section
variable {P : Program} {T : Tab} {ops : Array Oper} {cf : Oper → Bool} {K : AExit → St → Prop} {o : Oper} {rest : List Oper} {L : List (Nat × AV)} {O : List (Nat × Obj)}
end
/-! ### One check an operation -/
/-- Where an operation's value goes, if it runs. -/
def dstG (ops : Array Oper) (L : List (Nat × AV)) (o : Oper) : Option Nat := match gOn ops L o with | true => o.dst | false => none
def dstX (ops : Array Oper) (L : List (Nat × AV)) (o : Oper) : Option Nat := match gOff ops L o with | true => o.dst | false => none
def opD (T : Tab) (ops : Array Oper) (L : List (Nat × AV)) (O : List (Nat × Obj)) (o : Oper) : Option (Nat × AV) := match dstG ops L o with
  | some d => match opV T (mkSt L O) o with | some x => some (d, x) | none => none
  | none => none
theorem dstG_ok {ops : Array Oper} {L : List (Nat × AV)} {o : Oper} {d : Nat} (h : dstG ops L o = some d) : o.dst = some d ∧ gOn ops L o = true := by
  unfold dstG at h
  split at h
  · rename_i hg; exact ⟨h, hg⟩
  · cases h
theorem dstX_ok {ops : Array Oper} {L : List (Nat × AV)} {o : Oper} {d : Nat} (h : dstX ops L o = some d) : o.dst = some d ∧ gOff ops L o = true := by
  unfold dstX at h
  split at h
  · rename_i hg; exact ⟨h, hg⟩
  · cases h
theorem opD_ok {T : Tab} {ops : Array Oper} {L : List (Nat × AV)} {O : List (Nat × Obj)} {o : Oper} {d : Nat} {x : AV} (h : opD T ops L O o = some (d, x)) : o.dst = some d ∧ gOn ops L o = true ∧ opV T (mkSt L O) o = some x := by
  unfold opD at h
  split at h
  · rename_i d' hd
    split at h
    · rename_i y hy
      simp only [Option.some.injEq, Prod.mk.injEq] at h
      obtain ⟨rfl, rfl⟩ := h
      exact ⟨(dstG_ok hd).1, (dstG_ok hd).2, hy⟩
    · cases h
  · cases h
section
variable {P : Program} {T : Tab} {ops : Array Oper} {cf : Oper → Bool} {K : AExit → St → Prop} {o : Oper} {rest : List Oper} {L : List (Nat × AV)} {O : List (Nat × Obj)} {d : Nat}
theorem AOps.pD (hT : TabOk P T) {x : AV} (h : opD T ops L O o = some (d, x)) (k : AOps P ops cf K rest (mkSt ((d, x) :: L) O)) : AOps P ops cf K (o :: rest) (mkSt L O) :=
  AOps.p hT (opD_ok h).1 (opD_ok h).2.1 (opD_ok h).2.2 k
end
/-- Slots of a list name some objects each. -/
def fixB (own : List (Nat × List Nat)) (L : List (Nat × AV)) : Bool := own.all fun p => match look L p.1 with
  | .pt i _ _ => p.2.contains i
  | .fb _ fs cs => fs.all p.2.contains && cs.all p.2.contains
  | .oref i => p.2.contains i
  | .dat _ | .sp _ | .dead => true
  | .st .. => false
theorem fix_of {own : List (Nat × List Nat)} {L : List (Nat × AV)} {O : List (Nat × Obj)} (h : fixB own L = true) : FixS own (mkSt L O) := by
  intro p hp k hk
  have h1 := List.all_eq_true.1 h p hp
  have hk' : (look L p.1).refs k := hk
  cases e : look L p.1 with
  | pt i q o => rw [e] at h1 hk'; simp only [AV.refs] at hk'; rw [hk']; simpa using h1
  | oref i => rw [e] at h1 hk'; simp only [AV.refs] at hk'; rw [hk']; simpa using h1
  | fb f fs cs =>
    rw [e] at h1 hk'
    simp only [AV.refs, Bool.and_eq_true, List.all_eq_true] at hk' h1
    rcases hk' with hk' | hk'
    · simpa using h1.1 k hk'
    · simpa using h1.2 k hk'
  | dat x => rw [e] at hk'; simp [AV.refs] at hk'
  | sp x => rw [e] at hk'; simp [AV.refs] at hk'
  | dead => rw [e] at hk'; simp [AV.refs] at hk'
  | st ns xs => rw [e] at h1; cases h1
theorem sl {σ : St} {L : List (Nat × AV)} {O : List (Nat × Obj)} (hd : distinct (fun i => i) (O.map (·.1)) = true := by exact rfl) (hc : closedB (O.map (·.1)) L O = true := by exact rfl)
    (hL : slotsOk (fun i => i) σ L := by repeat' (first | exact trivial | refine ⟨rfl, ?_⟩)) (hO : objsOk (fun i => i) σ O := by repeat' (first | exact trivial | refine ⟨rfl, ?_⟩)) : Sub (mkSt L O) σ := Sub.list _ hd hc hL hO
theorem slf (f : Nat → Nat) {σ : St} {L : List (Nat × AV)} {O : List (Nat × Obj)} (hd : distinct f (O.map (·.1)) = true := by exact rfl) (hc : closedB (O.map (·.1)) L O = true := by exact rfl)
    (hL : slotsOk f σ L := by repeat' (first | exact trivial | refine ⟨rfl, ?_⟩)) (hO : objsOk f σ O := by repeat' (first | exact trivial | refine ⟨rfl, ?_⟩)) : Sub (mkSt L O) σ := Sub.list f hd hc hL hO
end Go.Sim

/- What is proved: numbers as lists of digits of 32 bits, and what wraps to itself. -/
namespace Go.Sim
open Go.RowKit
theorem wi {n : Int} (h0 : -9223372036854775808 ≤ n) (h1 : n < 9223372036854775808) : IntKind.i64.wrap n = n := by rw [IntKind.wrap_i64]; omega
theorem wu {n : Int} (h0 : 0 ≤ n) (h1 : n < 18446744073709551616) : IntKind.u64.wrap n = n := by simp only [IntKind.wrap, IntKind.bits, IntKind.signed, Bool.false_and, Bool.false_eq_true, if_false]; omega
theorem wuN (n : Nat) : IntKind.u64.wrap (n : Int) = ((n % 18446744073709551616 : Nat) : Int) := by simp only [IntKind.wrap, IntKind.bits, IntKind.signed, Bool.false_and, Bool.false_eq_true, if_false]; omega
end Go.Sim
/- What is proved: the order of digits, and how many bits a number has. -/
namespace Go.Sim
open Go.RowKit
/-- How many bits. -/
def blen (n : Nat) : Nat := if h : n = 0 then 0 else blen (n / 2) + 1
termination_by n
decreasing_by omega
theorem blen_zero : blen 0 = 0 := by rw [blen]; simp
theorem blen_pos {n : Nat} (h : n ≠ 0) : blen n = blen (n / 2) + 1 := by rw [blen]; simp [h]
theorem blen_le (n : Nat) : ∀ k, blen n ≤ k ↔ n < 2 ^ k := by
  induction n using Nat.strongRecOn with
  | _ n ih =>
    intro k
    by_cases h : n = 0
    · subst h; simp [blen_zero, Nat.two_pow_pos]
    · rw [blen_pos h]
      cases k with
      | zero => simp; omega
      | succ k =>
        have := ih (n / 2) (by omega) k
        rw [Nat.pow_succ]
        constructor
        · intro h'; have := this.1 (by omega); omega
        · intro h'; have := this.2 (by omega); omega
/-! ### Division, bit by bit -/
/-! ### Numbers of 64 bits -/
/-- A number that an int64 may be. -/
def inI (n : Int) : Prop := -9223372036854775808 ≤ n ∧ n < 9223372036854775808
/-- n / d in its form, if it has room. -/
def madeS (neg : Bool) (n d : Nat) : (Int × Int) × Int :=
  if n / Nat.gcd n d < 9223372036854775808 ∧ d / Nat.gcd n d < 9223372036854775808 then (((if neg then -((n / Nat.gcd n d : Nat) : Int) else ((n / Nat.gcd n d : Nat) : Int)), ((d / Nat.gcd n d : Nat) : Int)), 0) else ((0, 0), 3)
def makeS (n d : Int) : (Int × Int) × Int := if d = 0 then ((0, 0), 6) else madeS (decide (n < 0) != decide (d < 0)) n.natAbs d.natAbs
def rightS (n d : Int) : Bool := decide (1 ≤ d) && (decide (n ≠ -9223372036854775808) && (Nat.gcd n.natAbs d.natAbs == 1))
theorem madeS_zero {neg : Bool} {d : Nat} (hd : d ≠ 0) : madeS neg 0 d = ((0, 1), 0) := by
  have h : d / d = 1 := Nat.div_self (by omega)
  simp [madeS, h]
end Go.Sim
/- What is proved: plain laws of quotients: what has a common part, products, powers, order. -/
namespace Go.Sim
open Go.RowKit
theorem madeS_scale {neg : Bool} {n d c : Nat} (hc : 0 < c) : madeS neg (n * c) (d * c) = madeS neg n d := by
  have h1 : n * c / (Nat.gcd n d * c) = n / Nat.gcd n d := Nat.mul_div_mul_right _ _ hc
  have h2 : d * c / (Nat.gcd n d * c) = d / Nat.gcd n d := Nat.mul_div_mul_right _ _ hc
  simp only [madeS, Nat.gcd_mul_right, h1, h2]
theorem madeS_cop {neg : Bool} {n d : Nat} (h : Nat.gcd n d = 1) : madeS neg n d = if n < 9223372036854775808 ∧ d < 9223372036854775808 then (((if neg then -(n : Int) else (n : Int)), (d : Int)), 0) else ((0, 0), 3) := by
  simp only [madeS, h, Nat.div_one]
theorem rightS_spec {n d : Int} : rightS n d = true ↔ 1 ≤ d ∧ n ≠ -9223372036854775808 ∧ Nat.gcd n.natAbs d.natAbs = 1 := by
  simp [rightS]
theorem mul64_ok {a b x0 x1 y0 y1 w0 t w1 : Nat} (ha : a = x1 * 4294967296 + x0) (hb : b = y1 * 4294967296 + y0) (h0 : w0 = x0 * y0) (ht : t = x1 * y0 + w0 / 4294967296) (h1 : w1 = t % 4294967296 + x0 * y1) :
    x1 * y1 + t / 4294967296 + w1 / 4294967296 = a * b / 18446744073709551616 := by
  have e : a * b = x1 * y1 * 18446744073709551616 + (x1 * y0 + x0 * y1) * 4294967296 + x0 * y0 := by
    rw [ha, hb, Nat.add_mul, Nat.mul_add, Nat.mul_add, Nat.add_mul]
    have e1 : x1 * 4294967296 * (y1 * 4294967296) = x1 * y1 * 18446744073709551616 := by rw [Nat.mul_mul_mul_comm]
    have e2 : x1 * 4294967296 * y0 = x1 * y0 * 4294967296 := Nat.mul_right_comm _ _ _
    have e3 : x0 * (y1 * 4294967296) = x0 * y1 * 4294967296 := (Nat.mul_assoc _ _ _).symm
    omega
  generalize x1 * y1 = p11 at *
  generalize x1 * y0 = p10 at *
  generalize x0 * y1 = p01 at *
  generalize x0 * y0 = p00 at *
  generalize a * b = ab at *
  omega
theorem and32 {a : Nat} (h : a < 18446744073709551616) : bits .and .u64 (a : Int) 4294967295 = ((a % 4294967296 : Nat) : Int) := by
  have hk : ∀ n : Int, 0 ≤ n → n < 2 ^ 64 → IntKind.u64.wrap n = n := fun n h0 h1 => wu h0 (by simpa using h1)
  have := bits_mask .u64 64 (by simp [IntKind.bits]) hk 32 (by omega) (a : Int) (by omega) (by simp; omega)
  rw [show ((2 : Int) ^ 32 - 1) = 4294967295 from rfl] at this
  rw [this]
  omega
/-! ### Powers, one factor after the other -/
end Go.Sim
/- What is proved: plain laws of sums of quotients. -/
namespace Go.Sim
open Go.RowKit
end Go.Sim
/- What is proved: plain laws of a sum of two quotients, with what their lower parts have in common taken out ahead. -/
namespace Go.Sim
open Go.RowKit
end Go.Sim
/- What is proved: plain laws of the order of quotients: it is total, goes through, and goes with sums. -/
namespace Go.Sim
open Go.RowKit
end Go.Sim
