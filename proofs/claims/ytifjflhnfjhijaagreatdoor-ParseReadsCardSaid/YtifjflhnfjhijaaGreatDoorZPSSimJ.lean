/- What is proved: the steps of calls with a box of one's own, and of calls that panic; what cannot be reached. -/
import Derived.Test.YtifjflhnfjhijaaGreatDoorZPSSimF
import Derived.Laws.Strings2
import Derived.Laws.Strings
import Derived.Laws.IdiomStrings
import Derived.Laws.BytesArg
import Derived.Stop.IfaceNil

namespace Go.Sim
open Go.RowKit
def bot : AV := .st [1] []
theorem qV6 {w : World} {g : Gh} {u : Value} (h : RepS w g bot u) : False := by
 obtain ⟨cs, _, h⟩ := h
 simp [RepA, RepAF] at h
section
variable {P : Program} {N : Value -> Prop} {T : Tab} {σ : St}
theorem Step.callR {c : Bool} {o : Oper} {f : FuncId} {x0 : Operand} {args : List Operand} {ats : Array TypeId} {id : Nat} {Ty : TypeId} {sz : Nat} {x : DV} {xs : List DV} {y : DV}
    (ho : o.op = .call { callee := .value (.func f), args := (x0 :: args).toArray, argTypes := ats }) (hc : AFnB P f Ty sz x xs (.ret y) x) (hx0 : ev σ x0 = .pt id [] 0) (hob : σ.obj id = some (.box Ty sz (.dat x))) (ha : q3t σ false args xs) :
    Step P N c σ o ⟨.dat y, []⟩ where
  ok := by
    intro σ' hA B F w0 n a w hd r Q hN
    have h := (Step.callB (N := N) ho hc hx0 hob ha).ok σ' hA B F w0 n a w hd r Q hN
    have hl : looks o = true := by simp [looks, ho]
    have hob' : σ'.obj id = some (.box Ty sz (.dat x)) := by
      rw [hA.2.2 hl x0 (by rw [ho]; simp [Op.operands, Call.operands]) id (by rw [hx0]; simp [AV.refs])]; exact hob
    have e : q3o σ' [(id, .box Ty sz (.dat x))] = σ' := by
      show σ'.set id _ = σ'
      unfold St.set
      congr 1
      funext i
      by_cases hi : i = id
      · subst hi; simp [hob']
      · have : Nat.beq i id = false := by
          cases hb : Nat.beq i id with
          | false => rfl
          | true => exact absurd (Nat.eq_of_beq_eq_true hb) hi
        simp [this]
    have e2 : Eff.app ⟨.dat y, [(id, .box Ty sz (.dat x))]⟩ o.dst σ' = Eff.app ⟨.dat y, []⟩ o.dst σ' := by
      unfold Eff.app
      rw [e]; rfl
    rw [← e2]; exact h
  objs := fun p hp => by cases hp
  okk := fun σ' _ ok => qLq ok o.dst y
  near := fun _ _ k hk => by simp [AV.refs] at hk
theorem qUa {σ : St} (ok : σ.Ok) (d : Option Nat) : (Eff.app ⟨bot, []⟩ d σ).Ok := by
 refine ⟨fun i k hk => ?_, q9j (q1r _ _ _) ok.2⟩
 rw [q3p] at hk
 rw [q1r]
 split at hk
 ·simp [bot, AV.refs, AV.refs.refsL] at hk
 ·exact ok.1 i k hk
end
section
variable {P : Program} {ops : Array Oper} {cf : Oper -> Bool} {K : q1f -> St -> Prop} {o : Oper} {rest : List Oper} {L : List (Nat × AV)} {O : List (Nat × Obj)} {T : Tab}
theorem AOps.callB {d : Nat} {f : FuncId} {x0 : Operand} {args : List Operand} {ats : Array TypeId} {id : Nat} {Ty : TypeId} {sz : Nat} {x x' : DV} {xs : List DV} {y : DV} (hc : AFnB P f Ty sz x xs (.ret y) x') (hcf : cf o = true) (hd : o.dst = some d)
    (hg : gOn ops L o = true) (ho : o.op = .call { callee := .value (.func f), args := (x0 :: args).toArray, argTypes := ats }) (hx0 : ev (mkSt L O) x0 = .pt id [] 0) (hob : q0v O id = some (.box Ty sz (.dat x))) (ha : q3t (mkSt L O) false args xs)
    (k : AOps P ops cf K rest (mkSt ((d, .dat y) :: L) ((id, .box Ty sz (.dat x')) :: O))) : AOps P ops cf K (o :: rest) (mkSt L O) := by
  refine AOps.eff hg (e := ⟨.dat y, [(id, .box Ty sz (.dat x'))]⟩) ?_ (by rw [hd]; exact k)
  rw [hcf]; exact Step.callB ho hc hx0 hob ha
theorem AOps.callR {d : Nat} {f : FuncId} {x0 : Operand} {args : List Operand} {ats : Array TypeId} {id : Nat} {Ty : TypeId} {sz : Nat} {x : DV} {xs : List DV} {y : DV} (hc : AFnB P f Ty sz x xs (.ret y) x) (hd : o.dst = some d)
    (hg : gOn ops L o = true) (ho : o.op = .call { callee := .value (.func f), args := (x0 :: args).toArray, argTypes := ats }) (hx0 : ev (mkSt L O) x0 = .pt id [] 0) (hob : q0v O id = some (.box Ty sz (.dat x))) (ha : q3t (mkSt L O) false args xs)
    (k : AOps P ops cf K rest (mkSt ((d, .dat y) :: L) O)) : AOps P ops cf K (o :: rest) (mkSt L O) :=
  AOps.v hd hg (Step.callR ho hc hx0 hob ha) k
theorem AFnB.intro' {f : FuncId} {fn : Func} {c : Code} {Ty : TypeId} {sz : Nat} {x x' : DV} {xs : List DV} {r : Out} {n : Nat} {rs : List ResultVar} {L : List (Nat × AV)} (hT : q0r P T) (hf : P.funcs[f]? = some fn) (hb : fn.body = some c) (hname : (fn.name == "runtime.NumGoroutine") = false)
    (hn : fn.ntmps = n) (hr : fn.results.toList = rs) (hl : Nat.ble (xs.length + 1) n = true) (hL : argL 1 xs = L) (hw : ∀ b, AWp P (OneB b) n c (mkSt ((0, .pt 1000000 [] 0) :: L) [(1000000, .box Ty sz (.dat x))]) (qT2 T rs Ty sz r x')) (hnl : n <= 1000000 := by decide) :
    AFnB P f Ty sz x xs r x' := by
  subst hn hr hL
  exact AFnB.intro hT hf hb hname (Nat.le_of_ble_eq_true hl) hnl hw
end
def SlS (s : ByteArray) (lo hi : Int) (k : ByteArray -> Prop) : Prop := 0 <= lo /\ lo <= hi /\ hi <= s.size /\ Let (s.extract lo.toNat hi.toNat) k
theorem SlS.get {s : ByteArray} {lo hi : Int} {k : ByteArray -> Prop} (h : SlS s lo hi k) : 0 <= lo /\ lo <= hi /\ hi <= s.size /\ ∃ x, s.extract lo.toNat hi.toNat = x /\ k x := ⟨h.1, h.2.1, h.2.2.1, h.2.2.2.get⟩
section
variable {P : Program} {N : Value -> Prop} {T : Tab} {σ : St} {ops : Array Oper} {cf : Oper -> Bool} {K : q1f -> St -> Prop} {o : Oper} {rest : List Oper} {L : List (Nat × AV)} {O : List (Nat × Obj)}
theorem Step.sls (hT : q0r P T) {c : Bool} {o : Oper} {t : TypeId} {te : TE} {x y z : Operand} {s : ByteArray} {k k' : IntKind} {i j : Int} (ho : o.op = .slice t x (some y) (some z) none) (ht : tget T t = some te) (hd : te.d = .str)
    (hx : ev σ x = .dat (.v (.string s))) (hy : ev σ y = .dat (.v (.int k i))) (hz : ev σ z = .dat (.v (.int k' j))) (h0 : 0 <= i) (h1 : i <= j) (h2 : j <= s.size) : Step P N c σ o ⟨.dat (.v (.string (s.extract i.toNat j.toNat))), []⟩ := by
  refine Step.value (fun σ' hA B F w0 n a w g rr => ?_) (fun _ _ _ k hk => by simp [AV.refs] at hk)
  have e1 := q0k (ev_rep rr x) (by rw [hA.1 x (by simp [ho, Op.operands]), hx]; rfl)
  have e2 := q0k (ev_rep rr y) (by rw [hA.1 y (by simp [ho, Op.operands]), hy]; rfl)
  have e3 := q0k (ev_rep rr z) (by rw [hA.1 z (by simp [ho, Op.operands]), hz]; rfl)
  obtain ⟨_, d0, _, _, q2, q3, _⟩ := hT t te ht
  rw [hd] at q3
  cases d0 <;> simp only [TyD.ok] at q3
  refine ⟨.string (s.extract i.toNat j.toNat), ?_, q4i rfl⟩
  simp [execOp, ho, e1, e2, e3, Instr.sliceAt, run_underlying q2, run_slice_string w t s k k' i j q2 h0 h1 h2]
theorem Step.slsl (hT : q0r P T) {c : Bool} {o : Oper} {t : TypeId} {te : TE} {x y : Operand} {s : ByteArray} {k : IntKind} {i : Int} (ho : o.op = .slice t x (some y) none none) (ht : tget T t = some te) (hd : te.d = .str)
    (hx : ev σ x = .dat (.v (.string s))) (hy : ev σ y = .dat (.v (.int k i))) (h0 : 0 <= i) (h1 : i <= s.size) : Step P N c σ o ⟨.dat (.v (.string (s.extract i.toNat s.size))), []⟩ := by
  refine Step.value (fun σ' hA B F w0 n a w g rr => ?_) (fun _ _ _ k hk => by simp [AV.refs] at hk)
  have e1 := q0k (ev_rep rr x) (by rw [hA.1 x (by simp [ho, Op.operands]), hx]; rfl)
  have e2 := q0k (ev_rep rr y) (by rw [hA.1 y (by simp [ho, Op.operands]), hy]; rfl)
  obtain ⟨_, d0, _, _, q2, q3, _⟩ := hT t te ht
  rw [hd] at q3
  cases d0 <;> simp only [TyD.ok] at q3
  refine ⟨.string (s.extract i.toNat s.size), ?_, q4i rfl⟩
  simp [execOp, ho, e1, e2, Instr.sliceAt, run_underlying q2, run_slice_string_l w t s q2 k i h0 h1]
theorem Step.slsh (hT : q0r P T) {c : Bool} {o : Oper} {t : TypeId} {te : TE} {x z : Operand} {s : ByteArray} {k : IntKind} {j : Int} (ho : o.op = .slice t x none (some z) none) (ht : tget T t = some te) (hd : te.d = .str)
    (hx : ev σ x = .dat (.v (.string s))) (hz : ev σ z = .dat (.v (.int k j))) (h0 : 0 <= j) (h1 : j <= s.size) : Step P N c σ o ⟨.dat (.v (.string (s.extract 0 j.toNat))), []⟩ := by
  refine Step.value (fun σ' hA B F w0 n a w g rr => ?_) (fun _ _ _ k hk => by simp [AV.refs] at hk)
  have e1 := q0k (ev_rep rr x) (by rw [hA.1 x (by simp [ho, Op.operands]), hx]; rfl)
  have e2 := q0k (ev_rep rr z) (by rw [hA.1 z (by simp [ho, Op.operands]), hz]; rfl)
  obtain ⟨_, d0, _, _, q2, q3, _⟩ := hT t te ht
  rw [hd] at q3
  cases d0 <;> simp only [TyD.ok] at q3
  refine ⟨.string (s.extract 0 j.toNat), ?_, q4i rfl⟩
  simp [execOp, ho, e1, e2, Instr.sliceAt, run_underlying q2, run_slice_string_h w t s q2 k j h0 h1]
theorem AOps.sls (hT : q0r P T) {d : Nat} {t : TypeId} {te : TE} {x y z : Operand} {s r : ByteArray} {k k' : IntKind} {i j : Int} (ho : o.op = .slice t x (some y) (some z) none) (hd : o.dst = some d) (hg : gOn ops L o = true) (ht : tget T t = some te) (hs : te.d = .str)
    (hx : ev (mkSt L O) x = .dat (.v (.string s))) (hy : ev (mkSt L O) y = .dat (.v (.int k i))) (hz : ev (mkSt L O) z = .dat (.v (.int k' j))) (h0 : 0 <= i) (h1 : i <= j) (h2 : j <= s.size) (e : s.extract i.toNat j.toNat = r)
    (kk : AOps P ops cf K rest (mkSt ((d, .dat (.v (.string r))) :: L) O)) : AOps P ops cf K (o :: rest) (mkSt L O) := by
  subst e; exact AOps.v hd hg (Step.sls hT ho ht hs hx hy hz h0 h1 h2) kk
theorem AOps.slsl (hT : q0r P T) {d : Nat} {t : TypeId} {te : TE} {x y : Operand} {s r : ByteArray} {k : IntKind} {i j : Int} (ho : o.op = .slice t x (some y) none none) (hd : o.dst = some d) (hg : gOn ops L o = true) (ht : tget T t = some te) (hs : te.d = .str)
    (hx : ev (mkSt L O) x = .dat (.v (.string s))) (hy : ev (mkSt L O) y = .dat (.v (.int k i))) (hj : j = (s.size : Nat)) (h0 : 0 <= i) (h1 : i <= j) (e : s.extract i.toNat j.toNat = r)
    (kk : AOps P ops cf K rest (mkSt ((d, .dat (.v (.string r))) :: L) O)) : AOps P ops cf K (o :: rest) (mkSt L O) := by
  subst hj; subst e; exact AOps.v hd hg (Step.slsl hT ho ht hs hx hy h0 h1) kk
theorem AOps.slsh (hT : q0r P T) {d : Nat} {t : TypeId} {te : TE} {x z : Operand} {s r : ByteArray} {k : IntKind} {j : Int} (ho : o.op = .slice t x none (some z) none) (hd : o.dst = some d) (hg : gOn ops L o = true) (ht : tget T t = some te) (hs : te.d = .str)
    (hx : ev (mkSt L O) x = .dat (.v (.string s))) (hz : ev (mkSt L O) z = .dat (.v (.int k j))) (h0 : 0 <= j) (h1 : j <= s.size) (e : s.extract (0 : Int).toNat j.toNat = r)
    (kk : AOps P ops cf K rest (mkSt ((d, .dat (.v (.string r))) :: L) O)) : AOps P ops cf K (o :: rest) (mkSt L O) := by
  subst e; exact AOps.v hd hg (Step.slsh hT ho ht hs hx hz h0 h1) kk
end
def q00 (fs : List Nat) (o : Oper) : Bool :=
 writes o || match o.op with
  | .call c => match c.callee with | .value (.func f) => fs.contains f | _ => false
  | _ => false
end Go.Sim

/- What is proved: steps that compare an error with nil, and that turn strings into bytes and back. -/
namespace Go.Sim
open Go.RowKit
def qYx (v : Value) : Prop := ∃ t u, v = .iface t u
def eErr (b : Bool) : DV := if b = true then .any qYx else .v .nilIface
def q9a (s : ByteArray) : List Int := s.data.toList.map fun b => (b.toNat : Int)
theorem qD0 (s : ByteArray) : (q9a s).length = s.size := by unfold q9a; rw [List.length_map]; rfl
section
variable {P : Program} {N : Value -> Prop} {T : Tab} {σ : St}
theorem Step.isnil {c : Bool} {o : Oper} {op : BinOp} {t t' : TypeId} {x : Operand} {b : Bool} (ho : o.op = .binOp op t x (.const .nilIface) t') (hi : P.isIface t = true) (hx : ev σ x = .dat (eErr b)) {r : Bool} (hr : op = .neq /\ r = b \/ op = .eql /\ r = !b) :
    Step P N c σ o ⟨.dat (.v (.bool r)), []⟩ := by
  refine Step.value (fun σ' hA B F w0 n a w g rr => ?_) (fun _ _ _ k hk => by simp [AV.refs] at hk)
  have hev := ev_rep rr x
  rw [hA.1 x (by simp [ho, Op.operands]), hx] at hev
  have hv : (b = true /\ ∃ d u, a.eval x = .iface d u) \/ (b = false /\ a.eval x = .nilIface) := by
    cases b with
    | true =>
      simp only [eErr, if_true, RepS, RepV, RepD] at hev
      obtain ⟨u, e, _, d, z, rfl⟩ := hev
      simp only [List.cons.injEq, and_true] at e
      exact .inl ⟨rfl, d, z, e⟩
    | false =>
      simp only [eErr, Bool.false_eq_true, if_false, RepS, RepV, RepD, List.cons.injEq, and_true] at hev
      exact .inr ⟨rfl, hev.1⟩
  refine ⟨.bool r, ?_, q4i rfl⟩
  have ec : a.eval (.const .nilIface) = .nilIface := rfl
  rcases hv with ⟨rfl, d, u, e⟩ | ⟨rfl, e⟩
  · rcases hr with ⟨rfl, rfl⟩ | ⟨rfl, rfl⟩ <;> simp only [execOp, ho, e, ec, eqGuard_at_iface] <;> simp [run_neq_iface_nil w t hi, run_eql_iface_nil w t hi]
  · rcases hr with ⟨rfl, rfl⟩ | ⟨rfl, rfl⟩ <;> simp only [execOp, ho, e, ec, eqGuard_nil_constR] <;> simp [run_neq_nil_nil_at w t hi, run_eql_nil_nil_at w t hi]
theorem qWk (hT : q0r P T) {t : TypeId} {te : TE} (ht : tget T t = some te) (hd : te.d = .str) : P.underlying t = some .string := by
 obtain ⟨_, d0, _, _, q2, q3, _⟩ := hT t te ht
 rw [hd] at q3
 cases d0 <;> simp only [TyD.ok] at q3
 exact q2
theorem u8Of {E : TypeId} {te : TE} (h : q06 P E te) (hd : te.d = .int .u8) : P.underlying E = some (.int .u8) := by
 obtain ⟨_, d0, _, _, q2, q3, _⟩ := h
 rw [hd] at q3
 cases d0 <;> simp only [TyD.ok] at q3
 subst q3; exact q2
theorem qLy {w : World} {S : Nat -> Prop} : ∀ (l : List UInt8), RepF w S ((l.map fun b => (b.toNat : Int)).map fun n => DV.v (.int .u8 n)) (List.replicate ((l.map fun b => (b.toNat : Int)).map fun n => DV.v (.int .u8 n)).length 1) (l.map fun b => Value.int .u8 (b.toNat : Int))
 | [] => by simp [RepF]
 | b :: l => by
  have ih := qLy (w := w) (S := S) l
  simp only [List.map_cons, List.length_cons, List.replicate_succ, RepF]
  exact ⟨1, _, [_], _, rfl, rfl, rfl, by simp [RepD, Value.oneCell'], ih⟩
theorem Step.bytes (hT : q0r P T) {c : Bool} {o : Oper} {s1 s2 : TypeId} {x : Operand} {s : ByteArray} {E : TypeId} {te ts : TE} (ho : o.op = .convert s1 s2 x) (h1 : tget T s1 = some ts) (hd1 : ts.d = .str) (hs : slE T s2 = some (E, te)) (hd : te.d = .int .u8)
    (hx : ev σ x = .dat (.v (.string s))) : Step P N c σ o ⟨.dat (.sl E 1 ((q9a s).map fun n => .v (.int .u8 n))), []⟩ where
  ok := by
    rintro σ' hA B F w0 n a w hdn ⟨g, r⟩ Q _
    have e1 := q0k (ev_rep r x) (by rw [hA.1 x (by simp [ho, Op.operands]), hx]; rfl)
    obtain ⟨u1, u2, _⟩ := qEj hT hs
    have hrun := run_bytes_of_string (P := P) w s1 s2 E s (qWk hT h1 hd1) u1 (u8Of u2 hd)
    have hrun2 : (execOp a.eval o).run P w = .ok (.value (.slice (some ⟨w.heap.size, 0, none⟩) s.size (grownCap w s.size 0 E)))
      (w.drew.alloc (.cells (bytesRow s (grownCap w s.size 0 E)) E ((bytesRow s (grownCap w s.size 0 E)).size, (bytesRow s (grownCap w s.size 0 E)).size + 1))) := by
      simp [execOp, ho, e1, hrun]
    unfold Oper.wp
    rw [hrun2, Oper.upon_value]
    generalize hC : (Obj.cells (bytesRow s (grownCap w s.size 0 E)) E ((bytesRow s (grownCap w s.size 0 E)).size, (bytesRow s (grownCap w s.size 0 E)).size + 1) : Go.Obj) = ob
    have hold : ∀ k, k < w.heap.size -> (w.drew.alloc ob).heap[k]? = w.heap[k]? := fun k hk => heap_alloc_old w.drew _ k hk
    have hsz : w.heap.size < (w.drew.alloc ob).heap.size := by show w.heap.size < (w.heap.push ob).size; rw [Array.size_push]; omega
    have r2 := r.world (w' := w.drew.alloc ob) rfl rfl rfl (Nat.le_of_lt hsz) hold (fun k => k = w.heap.size) (fun k hk => by subst hk; exact ⟨Nat.le_refl _, hsz⟩)
    refine ⟨_, RelG.putO r2 o.dst (x := .dat (.sl E 1 ((q9a s).map fun n => .v (.int .u8 n)))) ?_ (fun k hk => by simp [AV.refs] at hk) hdn⟩
    simp only [RepS, RepV, RepD]
    refine ⟨_, _, s.data.toList.map fun b => Value.int .u8 (b.toNat : Int), by rw [List.length_map, qD0], by rw [List.length_map, qD0]; exact grownCap_ge w s.size 0 E, qLy _, .inr ⟨w.heap.size, 0, rfl, .inr rfl, fun j u hj => ?_⟩⟩
    subst hC
    rw [Nat.zero_add]
    refine (World.cell?_alloc_mark w.drew _ _ _ _).trans ?_
    simp only [List.getElem?_map, Option.map_eq_some_iff] at hj
    obtain ⟨b, hb, rfl⟩ := hj
    have hlt : j < s.data.size := by have := (List.getElem?_eq_some_iff.1 hb).1; simpa using this
    rw [bytesRow_at s _ j hlt]
    have : s.data[j] = b := by have := (List.getElem?_eq_some_iff.1 hb).2; simpa using this
    rw [this]
  objs := fun p hp => by cases hp
  okk := fun σ' _ ok => qLq ok o.dst _
  near := fun _ _ k hk => by simp [AV.refs] at hk
theorem qOi {w : World} {S : Nat -> Prop} : ∀ (xs : List Int) (row : List Value), RepF w S (xs.map fun n => DV.v (.int .u8 n)) (List.replicate (xs.map fun n => DV.v (.int .u8 n)).length 1) row -> row = xs.map (Value.int .u8)
 | [], row, h => by simp [RepF] at h; simpa using h
 | x :: xs, row, h => by
  simp only [List.map_cons, List.length_cons, List.replicate_succ, RepF] at h
  obtain ⟨n, ns, c1, c2, e1, rfl, _, h1, h2⟩ := h
  simp only [List.cons.injEq] at e1
  obtain ⟨rfl, rfl⟩ := e1
  simp only [RepD] at h1
  rw [h1.1, qOi xs c2 h2]
  rfl
theorem Step.ofbytes (hT : q0r P T) {c : Bool} {o : Oper} {s1 s2 : TypeId} {x : Operand} {xs : List Int} {E E' : TypeId} {te ts : TE} (ho : o.op = .convert s1 s2 x) (hs : slE T s1 = some (E, te)) (hd : te.d = .int .u8) (h2 : tget T s2 = some ts) (hd2 : ts.d = .str)
    (hx : ev σ x = .dat (.sl E' 1 (xs.map fun n => .v (.int .u8 n)))) : Step P N c σ o ⟨.dat (.v (.string (strOfNums xs))), []⟩ := by
  refine Step.value (fun σ' hA B F w0 n a w g rr => ?_) (fun _ _ _ k hk => by simp [AV.refs] at hk)
  have hev := ev_rep rr x
  rw [hA.1 x (by simp [ho, Op.operands]), hx] at hev
  simp only [RepS, RepV, RepD, List.cons.injEq, and_true] at hev
  obtain ⟨ad, cp, row, e1, e2, e3, e4⟩ := hev
  obtain ⟨u1, u2, _⟩ := qEj hT hs
  have hu := u8Of u2 hd
  have hstr := qWk hT h2 hd2
  have hrow := qOi xs row e3
  refine ⟨.string (strOfNums xs), ?_, q4i rfl⟩
  have key : (convert s1 s2 (.slice ad xs.length cp)).run P w = .ok (.string (strOfNums xs)) w := by
    rcases e4 with e4 | ⟨b, off, rfl, _, hc⟩
    · rw [hrow] at e4
      have : xs = [] := by simpa using e4
      subst this
      cases ad with
      | none => exact run_convert_bytes_nil w s1 E u1 hu _ _ s2 hstr
      | some ad => exact run_convert_bytes_back w s1 s2 E ad cp [] u1 hu hstr (fun j hj => absurd hj (Nat.not_lt_zero j))
    · refine run_convert_bytes_arg w s1 E u1 hu b off xs.length cp xs rfl (fun i hi => ?_) s2 hstr
      refine hc i _ ?_
      rw [hrow, List.getElem?_map, List.getElem?_eq_getElem hi]
      simp [List.getD, List.getElem?_eq_getElem hi]
  rw [List.length_map] at e1
  simp [execOp, ho, e1, key]
end
section
variable {P : Program} {T : Tab} {ops : Array Oper} {cf : Oper -> Bool} {K : q1f -> St -> Prop} {o : Oper} {rest : List Oper} {L : List (Nat × AV)} {O : List (Nat × Obj)}
theorem AOps.isnil {d : Nat} {op : BinOp} {t t' : TypeId} {x : Operand} {b r : Bool} (ho : o.op = .binOp op t x (.const .nilIface) t') (hd : o.dst = some d) (hg : gOn ops L o = true) (hi : P.isIface t = true) (hx : ev (mkSt L O) x = .dat (eErr b)) (hr : op = .neq /\ r = b \/ op = .eql /\ r = !b)
    (k : AOps P ops cf K rest (mkSt ((d, .dat (.v (.bool r))) :: L) O)) : AOps P ops cf K (o :: rest) (mkSt L O) := AOps.v hd hg (Step.isnil ho hi hx hr) k
theorem AOps.bytesE (hT : q0r P T) {d : Nat} {s1 s2 : TypeId} {x : Operand} {s : ByteArray} {z : List Int} {E : TypeId} {te ts : TE} (ho : o.op = .convert s1 s2 x) (hd : o.dst = some d) (hg : gOn ops L o = true) (h1 : tget T s1 = some ts) (hd1 : ts.d = .str) (hs : slE T s2 = some (E, te)) (hdd : te.d = .int .u8)
    (hx : ev (mkSt L O) x = .dat (.v (.string s))) (e : q9a s = z) (k : AOps P ops cf K rest (mkSt ((d, .dat (.sl E 1 (List.map (eInt .u8) z))) :: L) O)) : AOps P ops cf K (o :: rest) (mkSt L O) := by
  subst e; exact AOps.v hd hg (Step.bytes hT ho h1 hd1 hs hdd hx) k
theorem AOps.ofbytesE (hT : q0r P T) {d : Nat} {s1 s2 : TypeId} {x : Operand} {xs : List Int} {z : ByteArray} {E E' : TypeId} {te ts : TE} (ho : o.op = .convert s1 s2 x) (hd : o.dst = some d) (hg : gOn ops L o = true) (hs : slE T s1 = some (E, te)) (hdd : te.d = .int .u8) (h2 : tget T s2 = some ts) (hd2 : ts.d = .str)
    (hx : ev (mkSt L O) x = .dat (.sl E' 1 (List.map (eInt .u8) xs))) (e : strOfNums xs = z) (k : AOps P ops cf K rest (mkSt ((d, .dat (.v (.string z))) :: L) O)) : AOps P ops cf K (o :: rest) (mkSt L O) := by
  subst e; exact AOps.v hd hg (Step.ofbytes hT ho hs hdd h2 hd2 hx) k
end
end Go.Sim

/- What is proved: steps with function values that are not known. -/
namespace Go.Sim
open Go.RowKit
def dstG (ops : Array Oper) (L : List (Nat × AV)) (o : Oper) : Option Nat := match gOn ops L o with | true => o.dst | false => none
def dstX (ops : Array Oper) (L : List (Nat × AV)) (o : Oper) : Option Nat := match gOff ops L o with | true => o.dst | false => none
def opD (T : Tab) (ops : Array Oper) (L : List (Nat × AV)) (O : List (Nat × Obj)) (o : Oper) : Option (Nat × AV) := match dstG ops L o with
 | some d => match opV T (mkSt L O) o with | some x => some (d, x) | none => none
 | none => none
theorem q58 {ops : Array Oper} {L : List (Nat × AV)} {o : Oper} {d : Nat} (h : dstG ops L o = some d) : o.dst = some d /\ gOn ops L o = true := by
 unfold dstG at h
 split at h
 ·rename_i hg; exact ⟨h, hg⟩
 ·cases h
theorem qQq {ops : Array Oper} {L : List (Nat × AV)} {o : Oper} {d : Nat} (h : dstX ops L o = some d) : o.dst = some d /\ gOff ops L o = true := by
 unfold dstX at h
 split at h
 ·rename_i hg; exact ⟨h, hg⟩
 ·cases h
theorem qEk {T : Tab} {ops : Array Oper} {L : List (Nat × AV)} {O : List (Nat × Obj)} {o : Oper} {d : Nat} {x : AV} (h : opD T ops L O o = some (d, x)) : o.dst = some d /\ gOn ops L o = true /\ opV T (mkSt L O) o = some x := by
 unfold opD at h
 split at h
 ·rename_i d' hd
  split at h
  ·rename_i y hy
   simp only [Option.some.injEq, Prod.mk.injEq] at h
   obtain ⟨rfl, rfl⟩ := h
   exact ⟨(q58 hd).1, (q58 hd).2, hy⟩
  ·cases h
 ·cases h
section
variable {P : Program} {T : Tab} {ops : Array Oper} {cf : Oper -> Bool} {K : q1f -> St -> Prop} {o : Oper} {rest : List Oper} {L : List (Nat × AV)} {O : List (Nat × Obj)} {d : Nat}
theorem AOps.pD (hT : q0r P T) {x : AV} (h : opD T ops L O o = some (d, x)) (k : AOps P ops cf K rest (mkSt ((d, x) :: L) O)) : AOps P ops cf K (o :: rest) (mkSt L O) :=
 AOps.p hT (qEk h).1 (qEk h).2.1 (qEk h).2.2 k
end
def fixB (own : List (Nat × List Nat)) (L : List (Nat × AV)) : Bool := own.all fun p => match look L p.1 with
 | .pt i _ _ => p.2.contains i
 | .fb _ fs cs => fs.all p.2.contains && cs.all p.2.contains
 | .oref i => p.2.contains i
 | .dat _ | .sp _ | .dead => true
 | .st .. => false
theorem qUb {own : List (Nat × List Nat)} {L : List (Nat × AV)} {O : List (Nat × Obj)} (h : fixB own L = true) : FixS own (mkSt L O) := by
 intro p hp k hk
 have h1 := List.all_eq_true.1 h p hp
 have hk' : (look L p.1).refs k := hk
 cases e : look L p.1 with
 | pt i q o => rw [e] at h1 hk'; simp only [AV.refs] at hk'; rw [hk']; simpa using h1
 | oref i => rw [e] at h1 hk'; simp only [AV.refs] at hk'; rw [hk']; simpa using h1
 | fb f fs cs =>
  rw [e] at h1 hk'
  simp only [AV.refs, Bool.and_eq_true, List.all_eq_true] at hk' h1
  rcases hk' with hk' | hk'
  ·simpa using h1.1 k hk'
  ·simpa using h1.2 k hk'
 | dat x => rw [e] at hk'; simp [AV.refs] at hk'
 | sp x => rw [e] at hk'; simp [AV.refs] at hk'
 | dead => rw [e] at hk'; simp [AV.refs] at hk'
 | st ns xs => rw [e] at h1; cases h1
theorem sl {σ : St} {L : List (Nat × AV)} {O : List (Nat × Obj)} (hd : distinct (fun i => i) (O.map (·.1)) = true := by exact rfl) (hc : qFc (O.map (·.1)) L O = true := by exact rfl)
    (hL : qHp (fun i => i) σ L := by repeat' (first | exact trivial | refine ⟨rfl, ?_⟩)) (hO : qLo (fun i => i) σ O := by repeat' (first | exact trivial | refine ⟨rfl, ?_⟩)) : Sub (mkSt L O) σ := Sub.list _ hd hc hL hO
theorem slf (f : Nat -> Nat) {σ : St} {L : List (Nat × AV)} {O : List (Nat × Obj)} (hd : distinct f (O.map (·.1)) = true := by exact rfl) (hc : qFc (O.map (·.1)) L O = true := by exact rfl)
    (hL : qHp f σ L := by repeat' (first | exact trivial | refine ⟨rfl, ?_⟩)) (hO : qLo f σ O := by repeat' (first | exact trivial | refine ⟨rfl, ?_⟩)) : Sub (mkSt L O) σ := Sub.list f hd hc hL hO
end Go.Sim
