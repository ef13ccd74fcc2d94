/- What is proved: a region of operations may be gone through in the order of its text, whatever order is drawn, if a test on its operations says so. -/
import Derived.Test.YtnhflokfcnfegaaSim8
namespace Go.Sim
open Go.RowKit

def ev (σ : St) : Operand → AV
  | .tmp t => σ.slot t
  | .const v => if v.oneCell' then .dat (.v v) else .dead
  | .global g => .dat (.v (.pointer (some ⟨g, 0, none⟩)))
  | .func f => .dat (.v (.func (.func f) #[] #[]))

structure Eff where
  sv : AV
  objs : List (Nat × Obj)

def setAll (σ : St) : List (Nat × Obj) → St
  | [] => σ
  | p :: ps => setAll (σ.set p.1 p.2) ps

def putO (σ : St) (d : Option Nat) (x : AV) : St := match d with | some d => σ.put d x | none => σ

def Eff.app (e : Eff) (d : Option Nat) (σ : St) : St := putO (setAll σ e.objs) d e.sv

/-- May the operation look at objects? -/
def looks (o : Oper) : Bool :=
  match o.op with
  | .move _ | .assign _ | .pick .. | .alloc _ | .box .. | .build .. | .buildSlice .. | .binOp .. | .unOp .. | .convert .. | .makeInterface .. | .makeSlice ..
  | .fieldAddr .. | .field .. | .extract .. | .nilCheck _ => false
  | _ => true

def OpOk (P : Program) (o : Oper) (σ : St) (e : Eff) : Prop :=
  ∀ (B F : Nat → Prop) (w0 : World) (n : Nat) (a : Act) (w : World), (∀ d, o.dst = some d → d < n) → Rel B F w0 n σ a w →
    ∀ Q, o.wp P a w (fun a' w' => Rel B F w0 n (e.app o.dst σ) a' w') Q

/-- Two states that are one to an operation. -/
def Agree (o : Oper) (σ σ' : St) : Prop :=
  (∀ x ∈ o.op.operands, ev σ' x = ev σ x) ∧ (∀ d, o.dst = some d → σ.obj d = none → σ'.obj d = none) ∧
    (looks o = true → ∀ x ∈ o.op.operands, ∀ k, (ev σ x).refs k → σ'.obj k = σ.obj k)

/-- The operands that name what the operation may write. -/
def wr (o : Oper) : List Operand :=
  match o.op with
  | .store _ x _ => [x]
  | _ => o.op.operands.toList

theorem wr_mem {o : Oper} {x : Operand} (h : x ∈ wr o) : x ∈ o.op.operands := by
  unfold wr at h
  split at h
  · rename_i ho; simp at h; subst h; simp [ho, Op.operands]
  · simpa using h

/-- An operation's effect; 'c': may it write objects that were there? -/
structure Step (P : Program) (c : Bool) (σ : St) (o : Oper) (e : Eff) : Prop where
  ok : ∀ σ', Agree o σ σ' → OpOk P o σ' e
  objs : ∀ p ∈ e.objs, (o.dst = some p.1 ∧ σ.obj p.1 = none) ∨ (c = true ∧ looks o = true ∧ ∃ x ∈ wr o, (ev σ x).refs p.1)
  okk : ∀ σ', Agree o σ σ' → σ'.Ok → (e.app o.dst σ').Ok

/-- What an operation leaves that its guard keeps from running. -/
def skipE : Eff := ⟨.dat (.tup []), []⟩

/-- The same under the operation's guard. -/
def GStep (P : Program) (ops : Array Oper) (c : Bool) (σ : St) (o : Oper) (e : Eff) : Prop :=
  match o.guard with
  | none => Step P c σ o e
  | some (j, want) => ∃ t, (ops[j]?).bind (·.dst) = some t ∧ ((∃ b, σ.slot t = .dat (.v (.bool b)) ∧ if b = want then Step P c σ o e else e = skipE) ∨ (σ.slot t = .dat (.tup []) ∧ e = skipE))

def AOps (P : Program) (ops : Array Oper) (cf : Oper → Bool) (K : St → Prop) : List Oper → St → Prop
  | [], σ => K σ
  | o :: rest, σ => ∃ e, GStep P ops (cf o) σ o e ∧ AOps P ops cf K rest (e.app o.dst σ)

def AAny (P : Program) (ops : Array Oper) (cf : Oper → Bool) (K : St → Prop) : Nat → Array Bool → St → Prop
  | 0, listed, σ => Region.ready .any ops listed = [] ∧ K σ
  | f + 1, listed, σ => (Region.ready .any ops listed = [] → K σ) ∧
      ∀ i ∈ Region.ready .any ops listed, ∀ o, ops[i]? = some o → ∃ e, GStep P ops (cf o) σ o e ∧ AAny P ops cf K f (listed.setIfInBounds i true) (e.app o.dst σ)

/-! ### What an effect does to slots and objects -/

theorem setAll_slot : ∀ (ps : List (Nat × Obj)) (σ : St), (setAll σ ps).slot = σ.slot
  | [], _ => rfl
  | p :: ps, σ => by rw [setAll, setAll_slot ps]; rfl

theorem setAll_obj : ∀ (ps : List (Nat × Obj)) (σ : St) (k : Nat), (∀ p ∈ ps, p.1 ≠ k) → (setAll σ ps).obj k = σ.obj k
  | [], _, _, _ => rfl
  | p :: ps, σ, k, h => by
    rw [setAll, setAll_obj ps _ k (fun q hq => h q (by simp [hq])), St.obj_set, if_neg (fun e => h p (by simp) e.symm)]

theorem setAll_congr : ∀ (ps : List (Nat × Obj)) (σ σ' : St) (k : Nat), σ.obj k = σ'.obj k → (setAll σ ps).obj k = (setAll σ' ps).obj k
  | [], _, _, _, h => h
  | p :: ps, σ, σ', k, h => by
    rw [setAll, setAll]
    refine setAll_congr ps _ _ k ?_
    rw [St.obj_set, St.obj_set]; split
    · rfl
    · exact h

theorem setAll_some : ∀ (ps : List (Nat × Obj)) (σ : St) (k : Nat), σ.obj k ≠ none → (setAll σ ps).obj k ≠ none
  | [], _, _, h => h
  | p :: ps, σ, k, h => by
    rw [setAll]
    refine setAll_some ps _ k ?_
    rw [St.obj_set]; split <;> simp_all

theorem putO_obj (σ : St) (d : Option Nat) (x : AV) : (putO σ d x).obj = σ.obj := by cases d <;> rfl
theorem putO_slot (σ : St) (d : Option Nat) (x : AV) (i : Nat) : (putO σ d x).slot i = if d = some i then x else σ.slot i := by
  cases d with
  | none => simp [putO]
  | some d => simp only [putO, St.slot_put, Option.some.injEq, eq_comm]

theorem app_slot (e : Eff) (d : Option Nat) (σ : St) (i : Nat) : (e.app d σ).slot i = if d = some i then e.sv else σ.slot i := by
  unfold Eff.app; rw [putO_slot, setAll_slot]
theorem app_obj (e : Eff) (d : Option Nat) (σ : St) : (e.app d σ).obj = (setAll σ e.objs).obj := by unfold Eff.app; rw [putO_obj]

theorem ev_app (e : Eff) (d : Option Nat) (σ : St) (x : Operand) (h : ∀ t, d = some t → x ≠ .tmp t) : ev (e.app d σ) x = ev σ x := by
  cases x with
  | tmp t => simp only [ev, app_slot]; rw [if_neg (fun hd => h t hd rfl)]
  | _ => rfl

theorem St.ext {σ σ' : St} (h1 : ∀ i, σ.slot i = σ'.slot i) (h2 : ∀ i, σ.obj i = σ'.obj i) : σ = σ' := by
  cases σ; cases σ'; simp only [St.mk.injEq]; exact ⟨funext h1, funext h2⟩

end Go.Sim
