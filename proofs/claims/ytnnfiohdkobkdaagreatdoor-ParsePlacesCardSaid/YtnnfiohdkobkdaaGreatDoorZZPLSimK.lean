/- What is proved: steps that compare an error with nil, and that turn strings into bytes and back. -/
import Derived.Test.YtnnfiohdkobkdaaGreatDoorZZPLSimJ
import Derived.Laws.IdiomStrings
import Derived.Laws.BytesArg
import Derived.Stop.IfaceNil

namespace Go.Sim
open Go.RowKit
/-- An error, of which it is known whether it is one. -/
def isErr (v : Value) : Prop := ∃ t u, v = .iface t u
def eErr (b : Bool) : DV := if b = true then .any isErr else .v .nilIface
/-- Bytes as numbers. -/
def bytesI (s : ByteArray) : List Int := s.data.toList.map fun b => (b.toNat : Int)
theorem bytesI_len (s : ByteArray) : (bytesI s).length = s.size := by unfold bytesI; rw [List.length_map]; rfl
section
variable {P : Program} {N : Value → Prop} {T : Tab} {σ : St}
theorem Step.isnil {c : Bool} {o : Oper} {op : BinOp} {t t' : TypeId} {x : Operand} {b : Bool} (ho : o.op = .binOp op t x (.const .nilIface) t') (hi : P.isIface t = true) (hx : ev σ x = .dat (eErr b)) {r : Bool} (hr : op = .neq ∧ r = b ∨ op = .eql ∧ r = !b) :
    Step P N c σ o ⟨.dat (.v (.bool r)), []⟩ := by
  refine Step.value (fun σ' hA B F w0 n a w g rr => ?_) (fun _ _ _ k hk => by simp [AV.refs] at hk)
  have hev := ev_rep rr x
  rw [hA.1 x (by simp [ho, Op.operands]), hx] at hev
  have hv : (b = true ∧ ∃ d u, a.eval x = .iface d u) ∨ (b = false ∧ a.eval x = .nilIface) := by
    cases b with
    | true =>
      simp only [eErr, if_true, RepS, RepV, RepD] at hev
      obtain ⟨u, e, _, d, z, rfl⟩ := hev
      simp only [List.cons.injEq, and_true] at e
      exact .inl ⟨rfl, d, z, e⟩
    | false =>
      simp only [eErr, Bool.false_eq_true, if_false, RepS, RepV, RepD, List.cons.injEq, and_true] at hev
      exact .inr ⟨rfl, hev.1⟩
  refine ⟨.bool r, ?_, rep_raw rfl⟩
  have ec : a.eval (.const .nilIface) = .nilIface := rfl
  rcases hv with ⟨rfl, d, u, e⟩ | ⟨rfl, e⟩
  · rcases hr with ⟨rfl, rfl⟩ | ⟨rfl, rfl⟩ <;> simp only [execOp, ho, e, ec, eqGuard_at_iface] <;> simp [run_neq_iface_nil w t hi, run_eql_iface_nil w t hi]
  · rcases hr with ⟨rfl, rfl⟩ | ⟨rfl, rfl⟩ <;> simp only [execOp, ho, e, ec, eqGuard_nil_constR] <;> simp [run_neq_nil_nil_at w t hi, run_eql_nil_nil_at w t hi]
theorem strOf (hT : TabOk P T) {t : TypeId} {te : TE} (ht : tget T t = some te) (hd : te.d = .str) : P.underlying t = some .string := by
  obtain ⟨_, d0, _, _, q2, q3, _⟩ := hT t te ht
  rw [hd] at q3
  cases d0 <;> simp only [TyD.ok] at q3
  exact q2
theorem u8Of {E : TypeId} {te : TE} (h : EntryOk P E te) (hd : te.d = .int .u8) : P.underlying E = some (.int .u8) := by
  obtain ⟨_, d0, _, _, q2, q3, _⟩ := h
  rw [hd] at q3
  cases d0 <;> simp only [TyD.ok] at q3
  subst q3; exact q2
theorem rep_bytes {w : World} {S : Nat → Prop} : ∀ (l : List UInt8), RepF w S ((l.map fun b => (b.toNat : Int)).map fun n => DV.v (.int .u8 n)) (List.replicate ((l.map fun b => (b.toNat : Int)).map fun n => DV.v (.int .u8 n)).length 1) (l.map fun b => Value.int .u8 (b.toNat : Int))
  | [] => by simp [RepF]
  | b :: l => by
    have ih := rep_bytes (w := w) (S := S) l
    simp only [List.map_cons, List.length_cons, List.replicate_succ, RepF]
    exact ⟨1, _, [_], _, rfl, rfl, rfl, by simp [RepD, Value.oneCell'], ih⟩
/-- A string's bytes, in new memory. -/
theorem Step.bytes (hT : TabOk P T) {c : Bool} {o : Oper} {s1 s2 : TypeId} {x : Operand} {s : ByteArray} {E : TypeId} {te ts : TE} (ho : o.op = .convert s1 s2 x) (h1 : tget T s1 = some ts) (hd1 : ts.d = .str) (hs : slE T s2 = some (E, te)) (hd : te.d = .int .u8)
    (hx : ev σ x = .dat (.v (.string s))) : Step P N c σ o ⟨.dat (.sl E 1 ((bytesI s).map fun n => .v (.int .u8 n))), []⟩ where
  ok := by
    rintro σ' hA B F w0 n a w hdn ⟨g, r⟩ Q _
    have e1 := raw_eval (ev_rep r x) (by rw [hA.1 x (by simp [ho, Op.operands]), hx]; rfl)
    obtain ⟨u1, u2, _⟩ := slE_ok hT hs
    have hrun := run_bytes_of_string (P := P) w s1 s2 E s (strOf hT h1 hd1) u1 (u8Of u2 hd)
    have hrun2 : (execOp a.eval o).run P w = .ok (.value (.slice (some ⟨w.heap.size, 0, none⟩) s.size (grownCap w s.size 0 E)))
      (w.drew.alloc (.cells (bytesRow s (grownCap w s.size 0 E)) E ((bytesRow s (grownCap w s.size 0 E)).size, (bytesRow s (grownCap w s.size 0 E)).size + 1))) := by
      simp [execOp, ho, e1, hrun]
    unfold Oper.wp
    rw [hrun2, Oper.upon_value]
    generalize hC : (Obj.cells (bytesRow s (grownCap w s.size 0 E)) E ((bytesRow s (grownCap w s.size 0 E)).size, (bytesRow s (grownCap w s.size 0 E)).size + 1) : Go.Obj) = ob
    have hold : ∀ k, k < w.heap.size → (w.drew.alloc ob).heap[k]? = w.heap[k]? := fun k hk => heap_alloc_old w.drew _ k hk
    have hsz : w.heap.size < (w.drew.alloc ob).heap.size := by show w.heap.size < (w.heap.push ob).size; rw [Array.size_push]; omega
    have r2 := r.world (w' := w.drew.alloc ob) rfl rfl rfl (Nat.le_of_lt hsz) hold (fun k => k = w.heap.size) (fun k hk => by subst hk; exact ⟨Nat.le_refl _, hsz⟩)
    refine ⟨_, RelG.putO r2 o.dst (x := .dat (.sl E 1 ((bytesI s).map fun n => .v (.int .u8 n)))) ?_ (fun k hk => by simp [AV.refs] at hk) hdn⟩
    simp only [RepS, RepV, RepD]
    refine ⟨_, _, s.data.toList.map fun b => Value.int .u8 (b.toNat : Int), by rw [List.length_map, bytesI_len], by rw [List.length_map, bytesI_len]; exact grownCap_ge w s.size 0 E, rep_bytes _, .inr ⟨w.heap.size, 0, rfl, .inr rfl, fun j u hj => ?_⟩⟩
    subst hC
    rw [Nat.zero_add]
    refine (World.cell?_alloc_mark w.drew _ _ _ _).trans ?_
    simp only [List.getElem?_map, Option.map_eq_some_iff] at hj
    obtain ⟨b, hb, rfl⟩ := hj
    have hlt : j < s.data.size := by have := (List.getElem?_eq_some_iff.1 hb).1; simpa using this
    rw [bytesRow_at s _ j hlt]
    have : s.data[j] = b := by have := (List.getElem?_eq_some_iff.1 hb).2; simpa using this
    rw [this]
  objs := fun p hp => by cases hp
  okk := fun σ' _ ok => Ok_dat ok o.dst _
  near := fun _ _ k hk => by simp [AV.refs] at hk
theorem rep_ints {w : World} {S : Nat → Prop} : ∀ (xs : List Int) (row : List Value), RepF w S (xs.map fun n => DV.v (.int .u8 n)) (List.replicate (xs.map fun n => DV.v (.int .u8 n)).length 1) row → row = xs.map (Value.int .u8)
  | [], row, h => by simp [RepF] at h; simpa using h
  | x :: xs, row, h => by
    simp only [List.map_cons, List.length_cons, List.replicate_succ, RepF] at h
    obtain ⟨n, ns, c1, c2, e1, rfl, _, h1, h2⟩ := h
    simp only [List.cons.injEq] at e1
    obtain ⟨rfl, rfl⟩ := e1
    simp only [RepD] at h1
    rw [h1.1, rep_ints xs c2 h2]
    rfl
/-- Bytes, as a string. -/
theorem Step.ofbytes (hT : TabOk P T) {c : Bool} {o : Oper} {s1 s2 : TypeId} {x : Operand} {xs : List Int} {E E' : TypeId} {te ts : TE} (ho : o.op = .convert s1 s2 x) (hs : slE T s1 = some (E, te)) (hd : te.d = .int .u8) (h2 : tget T s2 = some ts) (hd2 : ts.d = .str)
    (hx : ev σ x = .dat (.sl E' 1 (xs.map fun n => .v (.int .u8 n)))) : Step P N c σ o ⟨.dat (.v (.string (strOfNums xs))), []⟩ := by
  refine Step.value (fun σ' hA B F w0 n a w g rr => ?_) (fun _ _ _ k hk => by simp [AV.refs] at hk)
  have hev := ev_rep rr x
  rw [hA.1 x (by simp [ho, Op.operands]), hx] at hev
  simp only [RepS, RepV, RepD, List.cons.injEq, and_true] at hev
  obtain ⟨ad, cp, row, e1, e2, e3, e4⟩ := hev
  obtain ⟨u1, u2, _⟩ := slE_ok hT hs
  have hu := u8Of u2 hd
  have hstr := strOf hT h2 hd2
  have hrow := rep_ints xs row e3
  refine ⟨.string (strOfNums xs), ?_, rep_raw rfl⟩
  have key : (convert s1 s2 (.slice ad xs.length cp)).run P w = .ok (.string (strOfNums xs)) w := by
    rcases e4 with e4 | ⟨b, off, rfl, _, hc⟩
    · rw [hrow] at e4
      have : xs = [] := by simpa using e4
      subst this
      cases ad with
      | none => exact run_convert_bytes_nil w s1 E u1 hu _ _ s2 hstr
      | some ad => exact run_convert_bytes_back w s1 s2 E ad cp [] u1 hu hstr (fun j hj => absurd hj (Nat.not_lt_zero j))
    · refine run_convert_bytes_arg w s1 E u1 hu b off xs.length cp xs rfl (fun i hi => ?_) s2 hstr
      refine hc i _ ?_
      rw [hrow, List.getElem?_map, List.getElem?_eq_getElem hi]
      simp [List.getD, List.getElem?_eq_getElem hi]
  rw [List.length_map] at e1
  simp [execOp, ho, e1, key]
end
section
variable {P : Program} {T : Tab} {ops : Array Oper} {cf : Oper → Bool} {K : AExit → St → Prop} {o : Oper} {rest : List Oper} {L : List (Nat × AV)} {O : List (Nat × Obj)}
theorem AOps.isnil {d : Nat} {op : BinOp} {t t' : TypeId} {x : Operand} {b r : Bool} (ho : o.op = .binOp op t x (.const .nilIface) t') (hd : o.dst = some d) (hg : gOn ops L o = true) (hi : P.isIface t = true) (hx : ev (mkSt L O) x = .dat (eErr b)) (hr : op = .neq ∧ r = b ∨ op = .eql ∧ r = !b)
    (k : AOps P ops cf K rest (mkSt ((d, .dat (.v (.bool r))) :: L) O)) : AOps P ops cf K (o :: rest) (mkSt L O) := AOps.v hd hg (Step.isnil ho hi hx hr) k
theorem AOps.bytesE (hT : TabOk P T) {d : Nat} {s1 s2 : TypeId} {x : Operand} {s : ByteArray} {z : List Int} {E : TypeId} {te ts : TE} (ho : o.op = .convert s1 s2 x) (hd : o.dst = some d) (hg : gOn ops L o = true) (h1 : tget T s1 = some ts) (hd1 : ts.d = .str) (hs : slE T s2 = some (E, te)) (hdd : te.d = .int .u8)
    (hx : ev (mkSt L O) x = .dat (.v (.string s))) (e : bytesI s = z) (k : AOps P ops cf K rest (mkSt ((d, .dat (.sl E 1 (List.map (eInt .u8) z))) :: L) O)) : AOps P ops cf K (o :: rest) (mkSt L O) := by
  subst e; exact AOps.v hd hg (Step.bytes hT ho h1 hd1 hs hdd hx) k
theorem AOps.ofbytesE (hT : TabOk P T) {d : Nat} {s1 s2 : TypeId} {x : Operand} {xs : List Int} {z : ByteArray} {E E' : TypeId} {te ts : TE} (ho : o.op = .convert s1 s2 x) (hd : o.dst = some d) (hg : gOn ops L o = true) (hs : slE T s1 = some (E, te)) (hdd : te.d = .int .u8) (h2 : tget T s2 = some ts) (hd2 : ts.d = .str)
    (hx : ev (mkSt L O) x = .dat (.sl E' 1 (List.map (eInt .u8) xs))) (e : strOfNums xs = z) (k : AOps P ops cf K rest (mkSt ((d, .dat (.v (.string z))) :: L) O)) : AOps P ops cf K (o :: rest) (mkSt L O) := by
  subst e; exact AOps.v hd hg (Step.ofbytes hT ho hs hdd h2 hd2 hx) k
end
end Go.Sim
