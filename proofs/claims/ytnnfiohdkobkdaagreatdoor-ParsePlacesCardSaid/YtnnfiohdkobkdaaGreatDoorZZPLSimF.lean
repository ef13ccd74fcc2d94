/- What is proved: the equality of floats within structs, and the lesser and the greater of two floats. -/
import Derived.Test.YtnnfiohdkobkdaaGreatDoorZZPLSimE

namespace Go.Sim
open Go.RowKit
theorem EqOk.flt {P : Program} {d : Nat} {t : TypeId} {te : TE} {k k' : FloatKind} {a b : Nat} (h : EntryOk P t te) (hd : te.d = .flt k) : EqOk P (d + 1) t (.v (.float k' a)) (.v (.float k' b)) (k'.format.order a b == some .eq) := by
  intro w S u v hu hv
  obtain ⟨i, ds, z, q1, q2, q3, _⟩ := h
  rw [hd] at q3
  cases ds <;> simp only [TyD.ok] at q3
  simp only [RepV, RepD, List.cons.injEq, and_true] at hu hv
  rw [hu.1, hv.1]
  simp [Op.equalIn, run_underlying q2, Op.floatEq]
/-- The greater, the lesser of two floats that are numbers. -/
def fmaxB (a b : Nat) : Nat := match Ieee.double.order a b with
  | some .lt => b
  | some .gt => a
  | _ => if (FloatKind.f64.decode a).neg then b else a
def fminB (a b : Nat) : Nat := match Ieee.double.order a b with
  | some .lt => a
  | some .gt => b
  | _ => if (FloatKind.f64.decode a).neg then a else b
def FMx (a b : Nat) (k : Nat → Prop) : Prop := Ieee.double.order a b ≠ none ∧ Let (fmaxB a b) k
def FMn (a b : Nat) (k : Nat → Prop) : Prop := Ieee.double.order a b ≠ none ∧ Let (fminB a b) k
theorem FMx.get {a b : Nat} {k : Nat → Prop} (h : FMx a b k) : Ieee.double.order a b ≠ none ∧ ∃ x, fmaxB a b = x ∧ k x := ⟨h.1, h.2.get⟩
theorem FMn.get {a b : Nat} {k : Nat → Prop} (h : FMn a b k) : Ieee.double.order a b ≠ none ∧ ∃ x, fminB a b = x ∧ k x := ⟨h.1, h.2.get⟩
section
variable {P : Program} {N : Value → Prop} {σ : St}
end
end Go.Sim

/- What is proved: own slices of own slices: made, taken apart and put together again, read, written, shared from now on. -/
namespace Go.Sim
open Go.RowKit
section
variable {B : Nat → Nat → Prop} {F : Cx} {w0 w : World} {n : Nat} {σ : St} {a : Act} {g : Gh}
end
end Go.Sim

/- What is proved: operations on own slices of own slices, one after the other. -/
namespace Go.Sim
open Go.RowKit
section
variable {P : Program} {N : Value → Prop} {T : Tab} {σ : St}
end
section
variable {P : Program} {N : Value → Prop} {T : Tab} {ops : Array Oper} {cf : Oper → Bool} {K : AExit → St → Prop} {o : Oper} {rest : List Oper} {L : List (Nat × AV)} {O : List (Nat × Obj)}
end
end Go.Sim
