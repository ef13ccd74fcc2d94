/- What is proved: steps with function values that are not known. -/
import Derived.Test.YtefpfeoimgkldaaDoorZRRSimK

namespace Go.Sim
open Go.RowKit
/-- It lies in one cell, and is no nil slice. -/
def IsFn (d : DV) : Prop := (((AV.dat d).lies && Nat.beq d.len 1) = true) ∧ d.agg = false ∧ d ≠ .v (.slice none 0 0)
theorem IsFn.lies {d : DV} (h : IsFn d) : (AV.dat d).lies = true := by
  have := h.1
  simp only [Bool.and_eq_true] at this
  exact this.1
theorem IsFn.len {d : DV} (h : IsFn d) : (AV.dat d).len = 1 := by
  have := h.1
  simp only [Bool.and_eq_true] at this
  exact Nat.eq_of_beq_eq_true this.2
section
variable {P : Program} {T : Tab} {ops : Array Oper} {cf : Oper → Bool} {K : AExit → St → Prop} {o : Oper} {rest : List Oper} {L : List (Nat × AV)} {O : List (Nat × Obj)}
end
/-! ### One check an operation -/
/-- Where an operation's value goes, if it runs. -/
def dstG (ops : Array Oper) (L : List (Nat × AV)) (o : Oper) : Option Nat := match gOn ops L o with | true => o.dst | false => none
def dstX (ops : Array Oper) (L : List (Nat × AV)) (o : Oper) : Option Nat := match gOff ops L o with | true => o.dst | false => none
def opD (T : Tab) (ops : Array Oper) (L : List (Nat × AV)) (O : List (Nat × Obj)) (o : Oper) : Option (Nat × AV) := match dstG ops L o with
  | some d => match opV T (mkSt L O) o with | some x => some (d, x) | none => none
  | none => none
theorem dstG_ok {ops : Array Oper} {L : List (Nat × AV)} {o : Oper} {d : Nat} (h : dstG ops L o = some d) : o.dst = some d ∧ gOn ops L o = true := by
  unfold dstG at h
  split at h
  · rename_i hg; exact ⟨h, hg⟩
  · cases h
theorem dstX_ok {ops : Array Oper} {L : List (Nat × AV)} {o : Oper} {d : Nat} (h : dstX ops L o = some d) : o.dst = some d ∧ gOff ops L o = true := by
  unfold dstX at h
  split at h
  · rename_i hg; exact ⟨h, hg⟩
  · cases h
theorem opD_ok {T : Tab} {ops : Array Oper} {L : List (Nat × AV)} {O : List (Nat × Obj)} {o : Oper} {d : Nat} {x : AV} (h : opD T ops L O o = some (d, x)) : o.dst = some d ∧ gOn ops L o = true ∧ opV T (mkSt L O) o = some x := by
  unfold opD at h
  split at h
  · rename_i d' hd
    split at h
    · rename_i y hy
      simp only [Option.some.injEq, Prod.mk.injEq] at h
      obtain ⟨rfl, rfl⟩ := h
      exact ⟨(dstG_ok hd).1, (dstG_ok hd).2, hy⟩
    · cases h
  · cases h
section
variable {P : Program} {T : Tab} {ops : Array Oper} {cf : Oper → Bool} {K : AExit → St → Prop} {o : Oper} {rest : List Oper} {L : List (Nat × AV)} {O : List (Nat × Obj)} {d : Nat}
theorem AOps.pD (hT : TabOk P T) {x : AV} (h : opD T ops L O o = some (d, x)) (k : AOps P ops cf K rest (mkSt ((d, x) :: L) O)) : AOps P ops cf K (o :: rest) (mkSt L O) :=
  AOps.p hT (opD_ok h).1 (opD_ok h).2.1 (opD_ok h).2.2 k
end
/-- Slots of a list name some objects each. -/
def fixB (own : List (Nat × List Nat)) (L : List (Nat × AV)) : Bool := own.all fun p => match look L p.1 with
  | .pt i _ _ => p.2.contains i
  | .oref i => p.2.contains i
  | .dat _ | .sp _ | .dead => true
  | .st .. => false
theorem fix_of {own : List (Nat × List Nat)} {L : List (Nat × AV)} {O : List (Nat × Obj)} (h : fixB own L = true) : FixS own (mkSt L O) := by
  intro p hp k hk
  have h1 := List.all_eq_true.1 h p hp
  have hk' : (look L p.1).refs k := hk
  cases e : look L p.1 with
  | pt i q o => rw [e] at h1 hk'; simp only [AV.refs] at hk'; rw [hk']; simpa using h1
  | oref i => rw [e] at h1 hk'; simp only [AV.refs] at hk'; rw [hk']; simpa using h1
  | dat x => rw [e] at hk'; simp [AV.refs] at hk'
  | sp x => rw [e] at hk'; simp [AV.refs] at hk'
  | dead => rw [e] at hk'; simp [AV.refs] at hk'
  | st ns xs => rw [e] at h1; cases h1
theorem sl {σ : St} {L : List (Nat × AV)} {O : List (Nat × Obj)} (hd : distinct (fun i => i) (O.map (·.1)) = true := by exact rfl) (hc : closedB (O.map (·.1)) L O = true := by exact rfl)
    (hL : slotsOk (fun i => i) σ L := by repeat' (first | exact trivial | refine ⟨rfl, ?_⟩)) (hO : objsOk (fun i => i) σ O := by repeat' (first | exact trivial | refine ⟨rfl, ?_⟩)) : Sub (mkSt L O) σ := Sub.list _ hd hc hL hO
theorem slf (f : Nat → Nat) {σ : St} {L : List (Nat × AV)} {O : List (Nat × Obj)} (hd : distinct f (O.map (·.1)) = true := by exact rfl) (hc : closedB (O.map (·.1)) L O = true := by exact rfl)
    (hL : slotsOk f σ L := by repeat' (first | exact trivial | refine ⟨rfl, ?_⟩)) (hO : objsOk f σ O := by repeat' (first | exact trivial | refine ⟨rfl, ?_⟩)) : Sub (mkSt L O) σ := Sub.list f hd hc hL hO
end Go.Sim
