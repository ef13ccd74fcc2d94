/- What is proved: steps with function values that are not known. -/
import Derived.Test.YtnnfiohdkobkdaaGreatDoorZPRSimK

namespace Go.Sim
open Go.RowKit
/-- It lies in one cell, and is no nil slice. -/
def IsFn (d : DV) : Prop := (((AV.dat d).lies && Nat.beq d.len 1) = true) ∧ d.agg = false ∧ d ≠ .v (.slice none 0 0)
theorem isFn_v {f : FuncId} : IsFn (.v (.func (.func f) #[] #[])) := ⟨rfl, rfl, fun h => by injection h with h; cases h⟩
theorem isFn_c {f : FuncId} {cs : List DV} : IsFn (.fn f cs) := ⟨rfl, rfl, fun h => by cases h⟩
theorem IsFn.lies {d : DV} (h : IsFn d) : (AV.dat d).lies = true := by
  have := h.1
  simp only [Bool.and_eq_true] at this
  exact this.1
theorem IsFn.len {d : DV} (h : IsFn d) : (AV.dat d).len = 1 := by
  have := h.1
  simp only [Bool.and_eq_true] at this
  exact Nat.eq_of_beq_eq_true this.2
theorem nilT_fn {T : Tab} {t : TypeId} {d : DV} (h : d ≠ .v (.slice none 0 0)) : nilT T t (.dat d) = .dat d := by
  unfold nilT
  split
  · rename_i e; cases e; exact absurd rfl h
  · rfl
theorem buildS_step {T : Tab} {E : TypeId} {σ : St} {i : Nat} {x : Operand} {ps : List (Nat × Operand)} {xs ys : List DV} {d a : DV} (he : ev σ x = .dat d) (hi : xs[i]? = some a) (hd : IsFn d) (k : buildS T E 1 σ ps (xs.set i d) = some ys) :
    buildS T E 1 σ ((i, x) :: ps) xs = some ys := by
  simp only [buildS, he, nilT_fn hd.2.2, hi, hd.1, if_true]
  exact k
section
variable {P : Program} {T : Tab} {ops : Array Oper} {cf : Oper → Bool} {K : AExit → St → Prop} {o : Oper} {rest : List Oper} {L : List (Nat × AV)} {O : List (Nat × Obj)}
theorem AOps.boxfn {d : Nat} {E : TypeId} {x : Operand} {v : DV} (ho : o.op = .box E x) (hd : o.dst = some d) (hg : gOn ops L o = true) (hv : ev (mkSt L O) x = .dat v) (hl : IsFn v) (hn : lookO O d = none)
    (k : AOps P ops cf K rest (mkSt ((d, .pt d [] 0) :: L) ((d, .box E 1 (.dat v)) :: O))) : AOps P ops cf K (o :: rest) (mkSt L O) :=
  AOps.box ho hd hg hv hl.lies hn (by rw [hl.len]; exact k)
theorem AOps.loadfn (hT : TabOk P T) {d : Nat} {t : TypeId} {te : TE} {x : Operand} {z : DV} (ho : o.op = .load t x) (hd : o.dst = some d) (hg : gOn ops L o = true) (ht : tget T t = some te) (ha : te.d.agg = false) (hx : ev (mkSt L O) x = .sp z)
    (hz : IsFn z) (k : AOps P ops cf K rest (mkSt ((d, .dat z) :: L) O)) : AOps P ops cf K (o :: rest) (mkSt L O) := by
  refine AOps.p hT hd hg ?_ k
  have e : aggMatch te (.dat z) = true := by simp [aggMatch, ha, AV.agg, hz.2.1]
  simp [opV, ho, opLoad, ht, hx, e]
end
/-! ### One check an operation -/
section
variable {P : Program} {T : Tab} {ops : Array Oper} {cf : Oper → Bool} {K : AExit → St → Prop} {o : Oper} {rest : List Oper} {L : List (Nat × AV)} {O : List (Nat × Obj)} {d : Nat}
end
theorem sl {σ : St} {L : List (Nat × AV)} {O : List (Nat × Obj)} (hd : distinct (fun i => i) (O.map (·.1)) = true := by exact rfl) (hc : closedB (O.map (·.1)) L O = true := by exact rfl)
    (hL : slotsOk (fun i => i) σ L := by repeat' (first | exact trivial | refine ⟨rfl, ?_⟩)) (hO : objsOk (fun i => i) σ O := by repeat' (first | exact trivial | refine ⟨rfl, ?_⟩)) : Sub (mkSt L O) σ := Sub.list _ hd hc hL hO
end Go.Sim
