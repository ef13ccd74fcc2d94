/- What is proved: the steps of calls with a box of one's own, and of calls that panic; what cannot be reached. -/
import Derived.Test.YtnnfiohdkobkdaaGreatDoorZZPLSimI
import Derived.Laws.Strings2
import Derived.Laws.Strings

namespace Go.Sim
open Go.RowKit
/-- A value that nothing holds: it stands in states that are never reached. -/
def bot : AV := .st [1] []
theorem bot_rep {w : World} {g : Gh} {u : Value} (h : RepS w g bot u) : False := by
  obtain ⟨cs, _, h⟩ := h
  simp [RepA, RepAF] at h
section
variable {P : Program} {N : Value → Prop} {T : Tab} {σ : St}
/-- A call that reads a box of one's own. -/
theorem Step.callR {c : Bool} {o : Oper} {f : FuncId} {x0 : Operand} {args : List Operand} {ats : Array TypeId} {id : Nat} {Ty : TypeId} {sz : Nat} {x : DV} {xs : List DV} {y : DV}
    (ho : o.op = .call { callee := .value (.func f), args := (x0 :: args).toArray, argTypes := ats }) (hc : AFnB P f Ty sz x xs (.ret y) x) (hx0 : ev σ x0 = .pt id [] 0) (hob : σ.obj id = some (.box Ty sz (.dat x))) (ha : argsOk σ false args xs) :
    Step P N c σ o ⟨.dat y, []⟩ where
  ok := by
    intro σ' hA B F w0 n a w hd r Q hN
    have h := (Step.callB (N := N) ho hc hx0 hob ha).ok σ' hA B F w0 n a w hd r Q hN
    have hl : looks o = true := by simp [looks, ho]
    have hob' : σ'.obj id = some (.box Ty sz (.dat x)) := by
      rw [hA.2.2 hl x0 (by rw [ho]; simp [Op.operands, Call.operands]) id (by rw [hx0]; simp [AV.refs])]; exact hob
    have e : setAll σ' [(id, .box Ty sz (.dat x))] = σ' := by
      show σ'.set id _ = σ'
      unfold St.set
      congr 1
      funext i
      by_cases hi : i = id
      · subst hi; simp [hob']
      · have : Nat.beq i id = false := by
          cases hb : Nat.beq i id with
          | false => rfl
          | true => exact absurd (Nat.eq_of_beq_eq_true hb) hi
        simp [this]
    have e2 : Eff.app ⟨.dat y, [(id, .box Ty sz (.dat x))]⟩ o.dst σ' = Eff.app ⟨.dat y, []⟩ o.dst σ' := by
      unfold Eff.app
      rw [e]; rfl
    rw [← e2]; exact h
  objs := fun p hp => by cases hp
  okk := fun σ' _ ok => Ok_dat ok o.dst y
  near := fun _ _ k hk => by simp [AV.refs] at hk
theorem Ok_bot {σ : St} (ok : σ.Ok) (d : Option Nat) : (Eff.app ⟨bot, []⟩ d σ).Ok := by
  refine ⟨fun i k hk => ?_, ok_tail (app_obj _ _ _) ok.2⟩
  rw [app_slot] at hk
  rw [app_obj]
  split at hk
  · simp [bot, AV.refs, AV.refs.refsL] at hk
  · exact ok.1 i k hk
end
section
variable {P : Program} {ops : Array Oper} {cf : Oper → Bool} {K : AExit → St → Prop} {o : Oper} {rest : List Oper} {L : List (Nat × AV)} {O : List (Nat × Obj)} {T : Tab}
theorem AOps.callB {d : Nat} {f : FuncId} {x0 : Operand} {args : List Operand} {ats : Array TypeId} {id : Nat} {Ty : TypeId} {sz : Nat} {x x' : DV} {xs : List DV} {y : DV} (hc : AFnB P f Ty sz x xs (.ret y) x') (hcf : cf o = true) (hd : o.dst = some d)
    (hg : gOn ops L o = true) (ho : o.op = .call { callee := .value (.func f), args := (x0 :: args).toArray, argTypes := ats }) (hx0 : ev (mkSt L O) x0 = .pt id [] 0) (hob : lookO O id = some (.box Ty sz (.dat x))) (ha : argsOk (mkSt L O) false args xs)
    (k : AOps P ops cf K rest (mkSt ((d, .dat y) :: L) ((id, .box Ty sz (.dat x')) :: O))) : AOps P ops cf K (o :: rest) (mkSt L O) := by
  refine AOps.eff hg (e := ⟨.dat y, [(id, .box Ty sz (.dat x'))]⟩) ?_ (by rw [hd]; exact k)
  rw [hcf]; exact Step.callB ho hc hx0 hob ha
theorem AOps.callR {d : Nat} {f : FuncId} {x0 : Operand} {args : List Operand} {ats : Array TypeId} {id : Nat} {Ty : TypeId} {sz : Nat} {x : DV} {xs : List DV} {y : DV} (hc : AFnB P f Ty sz x xs (.ret y) x) (hd : o.dst = some d)
    (hg : gOn ops L o = true) (ho : o.op = .call { callee := .value (.func f), args := (x0 :: args).toArray, argTypes := ats }) (hx0 : ev (mkSt L O) x0 = .pt id [] 0) (hob : lookO O id = some (.box Ty sz (.dat x))) (ha : argsOk (mkSt L O) false args xs)
    (k : AOps P ops cf K rest (mkSt ((d, .dat y) :: L) O)) : AOps P ops cf K (o :: rest) (mkSt L O) :=
  AOps.v hd hg (Step.callR ho hc hx0 hob ha) k
/-- The contract of a function with a box that was handed in, out of what is shown of its code. -/
theorem AFnB.intro' {f : FuncId} {fn : Func} {c : Code} {Ty : TypeId} {sz : Nat} {x x' : DV} {xs : List DV} {r : Out} {n : Nat} {rs : List ResultVar} {L : List (Nat × AV)} (hT : TabOk P T) (hf : P.funcs[f]? = some fn) (hb : fn.body = some c) (hname : (fn.name == "runtime.NumGoroutine") = false)
    (hn : fn.ntmps = n) (hr : fn.results.toList = rs) (hl : Nat.ble (xs.length + 1) n = true) (hL : argL 1 xs = L) (hw : ∀ b, AWp P (OneB b) n c (mkSt ((0, .pt 1000000 [] 0) :: L) [(1000000, .box Ty sz (.dat x))]) (outQB T rs Ty sz r x')) (hnl : n ≤ 1000000 := by decide) :
    AFnB P f Ty sz x xs r x' := by
  subst hn hr hL
  exact AFnB.intro hT hf hb hname (Nat.le_of_ble_eq_true hl) hnl hw
end
/-! ### Parts of a string -/
/-- A part of a string. -/
def SlS (s : ByteArray) (lo hi : Int) (k : ByteArray → Prop) : Prop := 0 ≤ lo ∧ lo ≤ hi ∧ hi ≤ s.size ∧ Let (s.extract lo.toNat hi.toNat) k
theorem SlS.get {s : ByteArray} {lo hi : Int} {k : ByteArray → Prop} (h : SlS s lo hi k) : 0 ≤ lo ∧ lo ≤ hi ∧ hi ≤ s.size ∧ ∃ x, s.extract lo.toNat hi.toNat = x ∧ k x := ⟨h.1, h.2.1, h.2.2.1, h.2.2.2.get⟩
section
variable {P : Program} {N : Value → Prop} {T : Tab} {σ : St} {ops : Array Oper} {cf : Oper → Bool} {K : AExit → St → Prop} {o : Oper} {rest : List Oper} {L : List (Nat × AV)} {O : List (Nat × Obj)}
theorem Step.sls (hT : TabOk P T) {c : Bool} {o : Oper} {t : TypeId} {te : TE} {x y z : Operand} {s : ByteArray} {k k' : IntKind} {i j : Int} (ho : o.op = .slice t x (some y) (some z) none) (ht : tget T t = some te) (hd : te.d = .str)
    (hx : ev σ x = .dat (.v (.string s))) (hy : ev σ y = .dat (.v (.int k i))) (hz : ev σ z = .dat (.v (.int k' j))) (h0 : 0 ≤ i) (h1 : i ≤ j) (h2 : j ≤ s.size) : Step P N c σ o ⟨.dat (.v (.string (s.extract i.toNat j.toNat))), []⟩ := by
  refine Step.value (fun σ' hA B F w0 n a w g rr => ?_) (fun _ _ _ k hk => by simp [AV.refs] at hk)
  have e1 := raw_eval (ev_rep rr x) (by rw [hA.1 x (by simp [ho, Op.operands]), hx]; rfl)
  have e2 := raw_eval (ev_rep rr y) (by rw [hA.1 y (by simp [ho, Op.operands]), hy]; rfl)
  have e3 := raw_eval (ev_rep rr z) (by rw [hA.1 z (by simp [ho, Op.operands]), hz]; rfl)
  obtain ⟨_, d0, _, _, q2, q3, _⟩ := hT t te ht
  rw [hd] at q3
  cases d0 <;> simp only [TyD.ok] at q3
  refine ⟨.string (s.extract i.toNat j.toNat), ?_, rep_raw rfl⟩
  simp [execOp, ho, e1, e2, e3, Instr.sliceAt, run_underlying q2, run_slice_string w t s k k' i j q2 h0 h1 h2]
theorem Step.slsl (hT : TabOk P T) {c : Bool} {o : Oper} {t : TypeId} {te : TE} {x y : Operand} {s : ByteArray} {k : IntKind} {i : Int} (ho : o.op = .slice t x (some y) none none) (ht : tget T t = some te) (hd : te.d = .str)
    (hx : ev σ x = .dat (.v (.string s))) (hy : ev σ y = .dat (.v (.int k i))) (h0 : 0 ≤ i) (h1 : i ≤ s.size) : Step P N c σ o ⟨.dat (.v (.string (s.extract i.toNat s.size))), []⟩ := by
  refine Step.value (fun σ' hA B F w0 n a w g rr => ?_) (fun _ _ _ k hk => by simp [AV.refs] at hk)
  have e1 := raw_eval (ev_rep rr x) (by rw [hA.1 x (by simp [ho, Op.operands]), hx]; rfl)
  have e2 := raw_eval (ev_rep rr y) (by rw [hA.1 y (by simp [ho, Op.operands]), hy]; rfl)
  obtain ⟨_, d0, _, _, q2, q3, _⟩ := hT t te ht
  rw [hd] at q3
  cases d0 <;> simp only [TyD.ok] at q3
  refine ⟨.string (s.extract i.toNat s.size), ?_, rep_raw rfl⟩
  simp [execOp, ho, e1, e2, Instr.sliceAt, run_underlying q2, run_slice_string_l w t s q2 k i h0 h1]
theorem Step.slsh (hT : TabOk P T) {c : Bool} {o : Oper} {t : TypeId} {te : TE} {x z : Operand} {s : ByteArray} {k : IntKind} {j : Int} (ho : o.op = .slice t x none (some z) none) (ht : tget T t = some te) (hd : te.d = .str)
    (hx : ev σ x = .dat (.v (.string s))) (hz : ev σ z = .dat (.v (.int k j))) (h0 : 0 ≤ j) (h1 : j ≤ s.size) : Step P N c σ o ⟨.dat (.v (.string (s.extract 0 j.toNat))), []⟩ := by
  refine Step.value (fun σ' hA B F w0 n a w g rr => ?_) (fun _ _ _ k hk => by simp [AV.refs] at hk)
  have e1 := raw_eval (ev_rep rr x) (by rw [hA.1 x (by simp [ho, Op.operands]), hx]; rfl)
  have e2 := raw_eval (ev_rep rr z) (by rw [hA.1 z (by simp [ho, Op.operands]), hz]; rfl)
  obtain ⟨_, d0, _, _, q2, q3, _⟩ := hT t te ht
  rw [hd] at q3
  cases d0 <;> simp only [TyD.ok] at q3
  refine ⟨.string (s.extract 0 j.toNat), ?_, rep_raw rfl⟩
  simp [execOp, ho, e1, e2, Instr.sliceAt, run_underlying q2, run_slice_string_h w t s q2 k j h0 h1]
theorem AOps.sls (hT : TabOk P T) {d : Nat} {t : TypeId} {te : TE} {x y z : Operand} {s r : ByteArray} {k k' : IntKind} {i j : Int} (ho : o.op = .slice t x (some y) (some z) none) (hd : o.dst = some d) (hg : gOn ops L o = true) (ht : tget T t = some te) (hs : te.d = .str)
    (hx : ev (mkSt L O) x = .dat (.v (.string s))) (hy : ev (mkSt L O) y = .dat (.v (.int k i))) (hz : ev (mkSt L O) z = .dat (.v (.int k' j))) (h0 : 0 ≤ i) (h1 : i ≤ j) (h2 : j ≤ s.size) (e : s.extract i.toNat j.toNat = r)
    (kk : AOps P ops cf K rest (mkSt ((d, .dat (.v (.string r))) :: L) O)) : AOps P ops cf K (o :: rest) (mkSt L O) := by
  subst e; exact AOps.v hd hg (Step.sls hT ho ht hs hx hy hz h0 h1 h2) kk
theorem AOps.slsl (hT : TabOk P T) {d : Nat} {t : TypeId} {te : TE} {x y : Operand} {s r : ByteArray} {k : IntKind} {i j : Int} (ho : o.op = .slice t x (some y) none none) (hd : o.dst = some d) (hg : gOn ops L o = true) (ht : tget T t = some te) (hs : te.d = .str)
    (hx : ev (mkSt L O) x = .dat (.v (.string s))) (hy : ev (mkSt L O) y = .dat (.v (.int k i))) (hj : j = (s.size : Nat)) (h0 : 0 ≤ i) (h1 : i ≤ j) (e : s.extract i.toNat j.toNat = r)
    (kk : AOps P ops cf K rest (mkSt ((d, .dat (.v (.string r))) :: L) O)) : AOps P ops cf K (o :: rest) (mkSt L O) := by
  subst hj; subst e; exact AOps.v hd hg (Step.slsl hT ho ht hs hx hy h0 h1) kk
theorem AOps.slsh (hT : TabOk P T) {d : Nat} {t : TypeId} {te : TE} {x z : Operand} {s r : ByteArray} {k : IntKind} {j : Int} (ho : o.op = .slice t x none (some z) none) (hd : o.dst = some d) (hg : gOn ops L o = true) (ht : tget T t = some te) (hs : te.d = .str)
    (hx : ev (mkSt L O) x = .dat (.v (.string s))) (hz : ev (mkSt L O) z = .dat (.v (.int k j))) (h0 : 0 ≤ j) (h1 : j ≤ s.size) (e : s.extract (0 : Int).toNat j.toNat = r)
    (kk : AOps P ops cf K rest (mkSt ((d, .dat (.v (.string r))) :: L) O)) : AOps P ops cf K (o :: rest) (mkSt L O) := by
  subst e; exact AOps.v hd hg (Step.slsh hT ho ht hs hx hz h0 h1) kk
end
/-- Operations that may write what was there: those of one's own, and calls of functions that write a box. -/
def writesB (fs : List Nat) (o : Oper) : Bool :=
  writes o || match o.op with
    | .call c => match c.callee with | .value (.func f) => fs.contains f | _ => false
    | _ => false
end Go.Sim
