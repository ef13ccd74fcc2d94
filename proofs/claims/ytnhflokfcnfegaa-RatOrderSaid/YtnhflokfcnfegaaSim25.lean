/- What is proved: the step rule for a call of a function that the model stands in for. -/
import Derived.Test.YtnhflokfcnfegaaSim24
import Derived.Laws.Externs
namespace Go.Sim
open Go.RowKit

section
variable {P : Program} {T : Tab} {σ : St}

theorem Step.ext {c : Bool} {o : Oper} {f : FuncId} {args : List Operand} {ats : Array TypeId} {vals : List Value} {y : DV} {v : Value}
    (ho : o.op = .call { callee := .value (.func f), args := args.toArray, argTypes := ats }) (hv : All2 (fun x u => (ev σ x).raw = some u) args vals)
    (hrun : ∀ w, (callFunc f vals.toArray).run P w = .ok (.value v) w) (hy : ∀ (w : World) (S : Nat → Prop), RepV w S y v) : Step P c σ o ⟨.dat y, []⟩ := by
  refine Step.value (fun σ' hA B F w0 n a w g rr => ?_) (fun _ _ _ k hk => by simp [AV.refs] at hk)
  have key : ∀ (args : List Operand) (vals : List Value), (∀ x ∈ args, ev σ' x = ev σ x) → All2 (fun x u => (ev σ x).raw = some u) args vals → args.map a.eval = vals := by
    intro args vals hx h
    induction h with
    | nil => rfl
    | cons h1 _ ih =>
      rw [List.map_cons, ih (fun x hx' => hx x (by simp [hx'])), raw_eval (ev_rep rr _) (by rw [hx _ (by simp)]; exact h1)]
  have e := key args vals (fun x hx => hA.1 x (by rw [ho]; simp [Op.operands, Call.operands, hx])) hv
  refine ⟨v, ?_, hy w g.S⟩
  simp only [execOp, ho, resolve, Act.eval, Deferred.ofValue, Sem.run_bind, Sem.run_pure, Result.andThen_ok, invoke]
  rw [show (args.toArray.map a.eval) = vals.toArray by simp [← e]]
  simpa using hrun w

/-- A byte of a string. -/
theorem Step.sidx (hT : TabOk P T) {c : Bool} {o : Oper} {t : TypeId} {te : TE} {x y : Operand} {s : ByteArray} {k : IntKind} {i : Int} {b : UInt8} (ho : o.op = .index t x y) (ht : tget T t = some te) (hd : te.d = .str)
    (hx : ev σ x = .dat (.v (.string s))) (hy : ev σ y = .dat (.v (.int k i))) (h0 : 0 ≤ i) (hb : s[i.toNat]? = some b) : Step P c σ o ⟨.dat (.v (.int .u8 b.toNat)), []⟩ := by
  refine Step.value (fun σ' hA B F w0 n a w g rr => ?_) (fun _ _ _ k hk => by simp [AV.refs] at hk)
  have e1 := raw_eval (ev_rep rr x) (by rw [hA.1 x (by simp [ho, Op.operands]), hx]; rfl)
  have e2 := raw_eval (ev_rep rr y) (by rw [hA.1 y (by simp [ho, Op.operands]), hy]; rfl)
  obtain ⟨_, d0, _, _, q2, q3, _⟩ := hT t te ht
  rw [hd] at q3
  cases d0 <;> simp only [TyD.ok] at q3
  refine ⟨.int .u8 b.toNat, ?_, rep_raw rfl⟩
  simp [execOp, ho, e1, e2, Instr.index, asIntOf_int, run_underlying q2, h0, hb]

/-- A place of an array of the function's own. -/
theorem Step.aidx (hT : TabOk P T) {c : Bool} {o : Oper} {t e : TypeId} {te ee : TE} {n : Nat} {x y : Operand} {id off : Nat} {p : List Pa} {k : IntKind} {i : Int} (ho : o.op = .indexAddr t x y) (ht : tget T t = some te) (hd : te.d = .arr n e) (he : tget T e = some ee)
    (hx : ev σ x = .pt id p off) (hy : ev σ y = .dat (.v (.int k i))) (h0 : 0 ≤ i) (h1 : i < n) : Step P c σ o ⟨.pt id (p ++ [.idx i.toNat]) (off + i.toNat * ee.size), []⟩ := by
  have hmx : x ∈ o.op.operands := by simp [ho, Op.operands]
  refine Step.value (fun σ' hA B F w0 nn a w g rr => ?_) (fun σ' hA ok k' hk => ?_)
  · have e2 := raw_eval (ev_rep rr y) (by rw [hA.1 y (by simp [ho, Op.operands]), hy]; rfl)
    have hev := ev_rep rr x
    rw [hA.1 x hmx, hx] at hev
    simp only [RepS] at hev
    obtain ⟨_, d0, _, _, q2, q3, _⟩ := hT t te ht
    rw [hd] at q3
    cases d0 <;> simp only [TyD.ok] at q3
    obtain ⟨rfl, rfl⟩ := q3
    refine ⟨.pointer (some ⟨g.blk id, off + i.toNat * ee.size, none⟩), ?_, by simp [RepS]⟩
    simp [execOp, ho, hev, e2, Instr.indexAt, Instr.sureAddr, asIntOf_int, run_underlying q2, run_sizeOf (hT _ _ he) w, h0, h1, addr_add]
  · simp only [AV.refs] at hk
    subst hk
    exact ev_refs ok x _ (by rw [hA.1 x hmx, hx]; simp [AV.refs])

end

section
variable {P : Program} {T : Tab} {ops : Array Oper} {cf : Oper → Bool} {K : St → Prop} {o : Oper} {rest : List Oper} {L : List (Nat × AV)} {O : List (Nat × Obj)}

theorem AOps.ext {d : Nat} {f : FuncId} {args : List Operand} {ats : Array TypeId} {vals : List Value} {y : DV} {v : Value} (hrun : ∀ w, (callFunc f vals.toArray).run P w = .ok (.value v) w) (hy : ∀ (w : World) (S : Nat → Prop), RepV w S y v)
    (hd : o.dst = some d) (hg : gOn ops L o = true) (ho : o.op = .call { callee := .value (.func f), args := args.toArray, argTypes := ats }) (hv : All2 (fun x u => (ev (mkSt L O) x).raw = some u) args vals)
    (k : AOps P ops cf K rest (mkSt ((d, .dat y) :: L) O)) : AOps P ops cf K (o :: rest) (mkSt L O) :=
  AOps.v hd hg (Step.ext ho hv hrun hy) k

theorem AOps.sidx (hT : TabOk P T) {d : Nat} {t : TypeId} {te : TE} {x y : Operand} {s : ByteArray} {κ : IntKind} {i j : Int} {b : UInt8} (ho : o.op = .index t x y) (hd : o.dst = some d) (hg : gOn ops L o = true) (ht : tget T t = some te) (hs : te.d = .str)
    (hx : ev (mkSt L O) x = .dat (.v (.string s))) (hy : ev (mkSt L O) y = .dat (.v (.int κ i))) (h0 : 0 ≤ i) (hb : s[i.toNat]? = some b) (hj : (b.toNat : Int) = j) (k : AOps P ops cf K rest (mkSt ((d, .dat (.v (.int .u8 j))) :: L) O)) : AOps P ops cf K (o :: rest) (mkSt L O) := by
  subst hj
  exact AOps.v hd hg (Step.sidx hT ho ht hs hx hy h0 hb) k

theorem AOps.aidx (hT : TabOk P T) {d : Nat} {t e : TypeId} {te ee : TE} {n : Nat} {x y : Operand} {id off m : Nat} {p : List Pa} {κ : IntKind} {i : Int} (ho : o.op = .indexAddr t x y) (hd : o.dst = some d) (hg : gOn ops L o = true) (ht : tget T t = some te) (ha : te.d = .arr n e)
    (he : tget T e = some ee) (hx : ev (mkSt L O) x = .pt id p off) (hy : ev (mkSt L O) y = .dat (.v (.int κ i))) (h0 : 0 ≤ i) (h1 : i < n) (hm : i.toNat = m) (k : AOps P ops cf K rest (mkSt ((d, .pt id (p ++ [.idx m]) (off + m * ee.size)) :: L) O)) :
    AOps P ops cf K (o :: rest) (mkSt L O) := by
  subst hm
  exact AOps.v hd hg (Step.aidx hT ho ht ha he hx hy h0 h1) k

theorem AOps.sidxE (hT : TabOk P T) {d : Nat} {t : TypeId} {te : TE} {x y : Operand} {s : ByteArray} {κ : IntKind} {i j : Int} (ho : o.op = .index t x y) (hd : o.dst = some d) (hg : gOn ops L o = true) (ht : tget T t = some te) (hs : te.d = .str)
    (hx : ev (mkSt L O) x = .dat (.v (.string s))) (hy : ev (mkSt L O) y = .dat (.v (.int κ i))) (h0 : 0 ≤ i) (hb : ∃ b, s[i.toNat]? = some b ∧ (b.toNat : Int) = j) (k : AOps P ops cf K rest (mkSt ((d, .dat (.v (.int .u8 j))) :: L) O)) : AOps P ops cf K (o :: rest) (mkSt L O) :=
  let ⟨_, h1, h2⟩ := hb
  AOps.sidx hT ho hd hg ht hs hx hy h0 h1 h2 k

end
end Go.Sim
