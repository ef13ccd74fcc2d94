/- What is proved: the equality of floats within structs, and the lesser and the greater of two floats. -/
import Derived.Test.YtlglkgineclggaaZGSimE
namespace Go.Sim
open Go.RowKit
theorem EqOk.flt {P : Program} {d : Nat} {t : TypeId} {te : TE} {k k' : FloatKind} {a b : Nat} (h : EntryOk P t te) (hd : te.d = .flt k) : EqOk P (d + 1) t (.v (.float k' a)) (.v (.float k' b)) (k'.format.order a b == some .eq) := by
  intro w S u v hu hv
  obtain ⟨i, ds, z, q1, q2, q3, _⟩ := h
  rw [hd] at q3
  cases ds <;> simp only [TyD.ok] at q3
  simp only [RepV, RepD, List.cons.injEq, and_true] at hu hv
  rw [hu.1, hv.1]
  simp [Op.equalIn, run_underlying q2, Op.floatEq]
/-- The greater, the lesser of two floats that are numbers. -/
def fmaxB (a b : Nat) : Nat := match Ieee.double.order a b with
  | some .lt => b
  | some .gt => a
  | _ => if (FloatKind.f64.decode a).neg then b else a
def fminB (a b : Nat) : Nat := match Ieee.double.order a b with
  | some .lt => a
  | some .gt => b
  | _ => if (FloatKind.f64.decode a).neg then a else b
def FMx (a b : Nat) (k : Nat → Prop) : Prop := Ieee.double.order a b ≠ none ∧ Let (fmaxB a b) k
def FMn (a b : Nat) (k : Nat → Prop) : Prop := Ieee.double.order a b ≠ none ∧ Let (fminB a b) k
theorem FMx.get {a b : Nat} {k : Nat → Prop} (h : FMx a b k) : Ieee.double.order a b ≠ none ∧ ∃ x, fmaxB a b = x ∧ k x := ⟨h.1, h.2.get⟩
theorem FMn.get {a b : Nat} {k : Nat → Prop} (h : FMn a b k) : Ieee.double.order a b ≠ none ∧ ∃ x, fminB a b = x ∧ k x := ⟨h.1, h.2.get⟩
section
variable {P : Program} {σ : St}
theorem run_max2 {a b : Nat} (h : Ieee.double.order a b ≠ none) (w : World) : (Builtin.max2 (.float .f64 a) (.float .f64 b)).run P w = .ok (.float .f64 (fmaxB a b)) w := by
  unfold Builtin.max2 fmaxB
  simp only [show FloatKind.f64.format = Ieee.double from rfl]
  cases e : Ieee.double.order a b with
  | none => exact absurd e h
  | some o => cases o <;> simp
theorem run_min2 {a b : Nat} (h : Ieee.double.order a b ≠ none) (w : World) : (Builtin.min2 (.float .f64 a) (.float .f64 b)).run P w = .ok (.float .f64 (fminB a b)) w := by
  unfold Builtin.min2 fminB
  simp only [show FloatKind.f64.format = Ieee.double from rfl]
  cases e : Ieee.double.order a b with
  | none => exact absurd e h
  | some o => cases o <;> simp
theorem Step.fmax {c : Bool} {o : Oper} {x y : Operand} {ats : Array TypeId} {a b z : Nat} (ho : o.op = .call { callee := .builtin .max, args := #[x, y], argTypes := ats })
    (hx : ev σ x = .dat (.v (.float .f64 a))) (hy : ev σ y = .dat (.v (.float .f64 b))) (h : Ieee.double.order a b ≠ none) (e : fmaxB a b = z) : Step P c σ o ⟨.dat (.v (.float .f64 z)), []⟩ := by
  subst e
  refine Step.value (fun σ' hA B F w0 n ac w g rr => ?_) (fun _ _ _ k hk => by simp [AV.refs] at hk)
  have e1 := raw_eval (ev_rep rr x) (by rw [hA.1 x (by simp [ho, Op.operands, Call.operands]), hx]; rfl)
  have e2 := raw_eval (ev_rep rr y) (by rw [hA.1 y (by simp [ho, Op.operands, Call.operands]), hy]; rfl)
  refine ⟨.float .f64 (fmaxB a b), ?_, rep_raw rfl⟩
  simp [execOp, ho, resolve, invoke, builtin, e1, e2, Builtin.max_, run_max2 h]
theorem Step.fmin {c : Bool} {o : Oper} {x y : Operand} {ats : Array TypeId} {a b z : Nat} (ho : o.op = .call { callee := .builtin .min, args := #[x, y], argTypes := ats })
    (hx : ev σ x = .dat (.v (.float .f64 a))) (hy : ev σ y = .dat (.v (.float .f64 b))) (h : Ieee.double.order a b ≠ none) (e : fminB a b = z) : Step P c σ o ⟨.dat (.v (.float .f64 z)), []⟩ := by
  subst e
  refine Step.value (fun σ' hA B F w0 n ac w g rr => ?_) (fun _ _ _ k hk => by simp [AV.refs] at hk)
  have e1 := raw_eval (ev_rep rr x) (by rw [hA.1 x (by simp [ho, Op.operands, Call.operands]), hx]; rfl)
  have e2 := raw_eval (ev_rep rr y) (by rw [hA.1 y (by simp [ho, Op.operands, Call.operands]), hy]; rfl)
  refine ⟨.float .f64 (fminB a b), ?_, rep_raw rfl⟩
  simp [execOp, ho, resolve, invoke, builtin, e1, e2, Builtin.min_, run_min2 h]
end
end Go.Sim
