/- What is proved: the step rules once more, for states that are written as lists, one operation of a region after the other. -/
import Derived.Test.YtnhflokfcnfegaaSim21
namespace Go.Sim
open Go.RowKit


/-- The operation's guard lets it run. -/
def gOn (ops : Array Oper) (L : List (Nat × AV)) (o : Oper) : Bool :=
  match o.guard with
  | none => true
  | some (j, want) => match (ops[j]?).bind (·.dst) with
    | some t => match look L t with | .dat (.v (.bool b)) => b == want | _ => false
    | none => false

/-- The operation's guard keeps it from running. -/
def gOff (ops : Array Oper) (L : List (Nat × AV)) (o : Oper) : Bool :=
  match o.guard with
  | none => false
  | some (j, want) => match (ops[j]?).bind (·.dst) with
    | some t => match look L t with | .dat (.v (.bool b)) => b != want | .dat (.tup []) => true | _ => false
    | none => false

section
variable {P : Program} {T : Tab} {ops : Array Oper} {cf : Oper → Bool} {K : St → Prop} {o : Oper} {rest : List Oper} {L : List (Nat × AV)} {O : List (Nat × Obj)}

theorem GStep.of {c : Bool} {e : Eff} (hg : gOn ops L o = true) (h : Step P c (mkSt L O) o e) : GStep P ops c (mkSt L O) o e := by
  unfold gOn at hg
  unfold GStep
  split
  · exact h
  · rename_i j want hh
    rw [hh] at hg
    simp only at hg
    split at hg
    · rename_i t ht
      split at hg
      · rename_i b hb
        simp only [beq_iff_eq] at hg
        subst hg
        exact ⟨t, ht, .inl ⟨b, hb, by rw [if_pos rfl]; exact h⟩⟩
      · cases hg
    · cases hg

theorem GStep.offd {c : Bool} (hg : gOff ops L o = true) : GStep P ops c (mkSt L O) o skipE := by
  unfold gOff at hg
  unfold GStep
  split
  · rename_i hh; rw [hh] at hg; cases hg
  · rename_i j want hh
    rw [hh] at hg
    simp only at hg
    split at hg
    · rename_i t ht
      split at hg
      · rename_i b hb
        simp only [bne_iff_ne, ne_eq] at hg
        exact ⟨t, ht, .inl ⟨b, hb, by rw [if_neg hg]⟩⟩
      · rename_i hb
        exact ⟨t, ht, .inr ⟨hb, rfl⟩⟩
      · cases hg
    · cases hg

theorem AOps.done {σ : St} (h : K σ) : AOps P ops cf K [] σ := h

theorem AOps.eff {e : Eff} (hg : gOn ops L o = true) (h : Step P (cf o) (mkSt L O) o e) (k : AOps P ops cf K rest (e.app o.dst (mkSt L O))) : AOps P ops cf K (o :: rest) (mkSt L O) :=
  ⟨e, GStep.of hg h, k⟩

/-- A value that is worked out. -/
theorem AOps.v {d : Nat} {x : AV} (hd : o.dst = some d) (hg : gOn ops L o = true) (h : Step P (cf o) (mkSt L O) o ⟨x, []⟩) (k : AOps P ops cf K rest (mkSt ((d, x) :: L) O)) : AOps P ops cf K (o :: rest) (mkSt L O) :=
  AOps.eff hg h (by rw [hd]; exact k)

theorem AOps.p (hT : TabOk P T) {d : Nat} {x : AV} (hd : o.dst = some d) (hg : gOn ops L o = true) (h : opV T (mkSt L O) o = some x) (k : AOps P ops cf K rest (mkSt ((d, x) :: L) O)) : AOps P ops cf K (o :: rest) (mkSt L O) :=
  AOps.v hd hg (Step.pure hT h) k

/-- A truth value: each of the two. -/
theorem AOps.b (hT : TabOk P T) {d : Nat} {e : Bool} (hd : o.dst = some d) (hg : gOn ops L o = true) (h : opV T (mkSt L O) o = some (.dat (.v (.bool e)))) (k : ∀ b, e = b → AOps P ops cf K rest (mkSt ((d, .dat (.v (.bool b))) :: L) O)) :
    AOps P ops cf K (o :: rest) (mkSt L O) := AOps.v hd hg (Step.pure hT h) (k e rfl)

/-- A number, by another name. -/
theorem AOps.i (hT : TabOk P T) {d : Nat} {κ : IntKind} {i j : Int} (hd : o.dst = some d) (hg : gOn ops L o = true) (h : opV T (mkSt L O) o = some (.dat (.v (.int κ i)))) (e : i = j) (k : AOps P ops cf K rest (mkSt ((d, .dat (.v (.int κ j))) :: L) O)) :
    AOps P ops cf K (o :: rest) (mkSt L O) := AOps.v hd hg (Step.pure hT (e ▸ h)) k

theorem AOps.off {d : Nat} (hd : o.dst = some d) (hg : gOff ops L o = true) (k : AOps P ops cf K rest (mkSt ((d, .dat (.tup [])) :: L) O)) : AOps P ops cf K (o :: rest) (mkSt L O) :=
  ⟨skipE, GStep.offd hg, by rw [hd]; exact k⟩

theorem AOps.off0 (hd : o.dst = none) (hg : gOff ops L o = true) (k : AOps P ops cf K rest (mkSt L O)) : AOps P ops cf K (o :: rest) (mkSt L O) :=
  ⟨skipE, GStep.offd hg, by rw [hd]; exact k⟩

/-- An operator whose question is answered: a division, a shift. -/
theorem AOps.q {d : Nat} {op : BinOp} {t t' : TypeId} {x y : Operand} {u v : Value} {κ : IntKind} {i j : Int} (hd : o.dst = some d) (hg : gOn ops L o = true) (ho : o.op = .binOp op t x y t') (hx : ev (mkSt L O) x = .dat (.v u)) (hy : ev (mkSt L O) y = .dat (.v v))
    (h : rbin op u v = some (.int κ i)) (e : i = j) (k : AOps P ops cf K rest (mkSt ((d, .dat (.v (.int κ j))) :: L) O)) : AOps P ops cf K (o :: rest) (mkSt L O) :=
  AOps.v hd hg (Step.bin ho (by rw [hx]; simp [AV.raw]) (by rw [hy]; simp [AV.raw]) (e ▸ h)) k

theorem rbin_quo {k : IntKind} {a b : Int} (h : b ≠ 0) : rbin .quo (.int k a) (.int k b) = some (.int k (k.wrap (a.tdiv b))) := by simp [rbin, h]
theorem rbin_rem {k : IntKind} {a b : Int} (h : b ≠ 0) : rbin .rem (.int k a) (.int k b) = some (.int k (a.tmod b)) := by simp [rbin, h]
theorem rbin_shl {k k' : IntKind} {a b : Int} (h : 0 ≤ b) : rbin .shl (.int k a) (.int k' b) = some (.int k (k.wrap (a * 2 ^ (min b.toNat k.bits)))) := by simp [rbin, Int.not_lt.2 h]
theorem rbin_shr {k k' : IntKind} {a b : Int} (h : 0 ≤ b) : rbin .shr (.int k a) (.int k' b) = some (.int k (a.fdiv (2 ^ (min b.toNat k.bits)))) := by simp [rbin, Int.not_lt.2 h]

theorem AOps.call {d : Nat} {f : FuncId} {args : List Operand} {ats : Array TypeId} {xs : List DV} {y : DV} {fr : Bool} (hc : AFn P f xs y fr) (hd : o.dst = some d) (hg : gOn ops L o = true)
    (ho : o.op = .call { callee := .value (.func f), args := args.toArray, argTypes := ats }) (ha : argsOk (mkSt L O) fr args xs) (k : AOps P ops cf K rest (mkSt ((d, .dat y) :: L) O)) : AOps P ops cf K (o :: rest) (mkSt L O) :=
  AOps.v hd hg (Step.call ho hc ha) k

theorem AOps.alloc (hT : TabOk P T) {d : Nat} {E : TypeId} {te : TE} (ho : o.op = .alloc E) (hd : o.dst = some d) (hg : gOn ops L o = true) (ht : tget T E = some te) (hn : lookO O d = none)
    (k : AOps P ops cf K rest (mkSt ((d, .pt d [] 0) :: L) ((d, .box E te.size (.dat te.zero)) :: O))) : AOps P ops cf K (o :: rest) (mkSt L O) :=
  AOps.eff hg (Step.alloc hT ho hd ht hn) (by rw [hd]; exact k)

theorem AOps.box {d : Nat} {E : TypeId} {x : Operand} {v : AV} (ho : o.op = .box E x) (hd : o.dst = some d) (hg : gOn ops L o = true) (hv : ev (mkSt L O) x = v) (hl : v.lies = true) (hn : lookO O d = none)
    (k : AOps P ops cf K rest (mkSt ((d, .pt d [] 0) :: L) ((d, .box E v.len v) :: O))) : AOps P ops cf K (o :: rest) (mkSt L O) :=
  AOps.eff hg (Step.box ho hd (hv ▸ hl) hn) (by rw [hd]; subst hv; exact k)

theorem AOps.store (hT : TabOk P T) {t : TypeId} {te : TE} {x y : Operand} {id : Nat} {p : List Pa} {off : Nat} {T' : TypeId} {sz : Nat} {c c' z v : AV} (ho : o.op = .store t x y) (hcf : cf o = true) (hd : o.dst = none) (hg : gOn ops L o = true)
    (ht : tget T t = some te) (hx : ev (mkSt L O) x = .pt id p off) (hob : lookO O id = some (.box T' sz c)) (hl : locA c p 0 = some (off, z)) (hz : Nat.beq z.len te.size = true)
    (hv : nilT T t (ev (mkSt L O) y) = v) (hy1 : v.lies = true) (hy2 : Nat.beq v.len te.size = true) (hp : putA c p v = some c')
    (k : AOps P ops cf K rest (mkSt L ((id, .box T' sz c') :: O))) : AOps P ops cf K (o :: rest) (mkSt L O) := by
  subst hv
  refine AOps.eff hg (e := ⟨.dead, [(id, .box T' sz c')]⟩) ?_ (by rw [hd]; exact k)
  rw [hcf]
  exact Step.store hT ho hd ht hx hob hl (Nat.eq_of_beq_eq_true hz) hy1 (Nat.eq_of_beq_eq_true hy2) hp

theorem AOps.nilown (hT : TabOk P T) {d : Nat} {x : Operand} {e : TypeId} {te : TE} (ho : o.op = .assign x) (hd : o.dst = some d) (hg : gOn ops L o = true) (hx : ev (mkSt L O) x = .dat (.v (.slice none 0 0)))
    (hs : slE T o.type = some (e, te)) (hn : lookO O d = none) (k : AOps P ops cf K rest (mkSt ((d, .oref d) :: L) ((d, .row e te.size []) :: O))) : AOps P ops cf K (o :: rest) (mkSt L O) :=
  AOps.eff hg (Step.nilown hT (.inl ho) hd hx hs hn) (by rw [hd]; exact k)

theorem AOps.idx (hT : TabOk P T) {d : Nat} {t E E' : TypeId} {te : TE} {x y : Operand} {κ : IntKind} {i : Int} {sz : Nat} {xs : List DV} {z : DV} (ho : o.op = .indexAddr t x y) (hd : o.dst = some d) (hg : gOn ops L o = true) (hs : slE T t = some (E, te))
    (hx : ev (mkSt L O) x = .dat (.sl E' sz xs)) (hsz : Nat.beq sz te.size = true) (hy : ev (mkSt L O) y = .dat (.v (.int κ i))) (hp : Nat.ble 1 te.size = true) (h0 : 0 ≤ i) (hz : xs[i.toNat]? = some z) (k : AOps P ops cf K rest (mkSt ((d, .sp z) :: L) O)) :
    AOps P ops cf K (o :: rest) (mkSt L O) :=
  AOps.v hd hg (Step.idx hT ho hs (by rw [hx, Nat.eq_of_beq_eq_true hsz]) hy (Nat.le_of_ble_eq_true hp) h0 hz) k

theorem AOps.idxown (hT : TabOk P T) {d : Nat} {t E E' : TypeId} {te : TE} {x y : Operand} {κ : IntKind} {i : Int} {id sz : Nat} {xs : List DV} (ho : o.op = .indexAddr t x y) (hd : o.dst = some d) (hg : gOn ops L o = true) (hs : slE T t = some (E, te))
    (hx : ev (mkSt L O) x = .oref id) (hob : lookO O id = some (.row E' sz xs)) (hsz : Nat.beq sz te.size = true) (hy : ev (mkSt L O) y = .dat (.v (.int κ i))) (h0 : 0 ≤ i) (h1 : i < xs.length) {m : Nat} (em : i.toNat = m)
    (k : AOps P ops cf K rest (mkSt ((d, .pt id [.idx m] (m * sz)) :: L) O)) : AOps P ops cf K (o :: rest) (mkSt L O) := by
  have e := Nat.eq_of_beq_eq_true hsz
  subst e em
  exact AOps.v hd hg (Step.idxown hT ho hs hx hob hy h0 h1) k

theorem AOps.storerow (hT : TabOk P T) {t : TypeId} {te : TE} {x y : Operand} {id i sz : Nat} {E : TypeId} {xs zs : List DV} {v : DV} (ho : o.op = .store t x y) (hcf : cf o = true) (hd : o.dst = none) (hg : gOn ops L o = true)
    (ht : tget T t = some te) (hx : ev (mkSt L O) x = .pt id [.idx i] (i * sz)) (hob : lookO O id = some (.row E sz xs)) (hsz : Nat.beq sz te.size = true) (hi : i < xs.length)
    (hy : nilT T t (ev (mkSt L O) y) = .dat v) (hy1 : (AV.dat v).lies = true) (hy2 : Nat.beq v.len te.size = true) (e : xs.set i v = zs) (k : AOps P ops cf K rest (mkSt L ((id, .row E sz zs) :: O))) : AOps P ops cf K (o :: rest) (mkSt L O) := by
  subst e
  have e := Nat.eq_of_beq_eq_true hsz
  subst e
  refine AOps.eff hg (e := ⟨.dead, [(id, .row E te.size (xs.set i v))]⟩) ?_ (by rw [hd]; exact k)
  rw [hcf]
  exact Step.storerow hT ho hd ht hx hob hi hy hy1 (Nat.eq_of_beq_eq_true hy2)

theorem AOps.makeown (hT : TabOk P T) {d : Nat} {t : TypeId} {x y : Operand} {E : TypeId} {te : TE} {κ κ' : IntKind} {m : Int} (ho : o.op = .makeSlice t x y) (hd : o.dst = some d) (hg : gOn ops L o = true) (hn : lookO O d = none)
    (hs : slE T t = some (E, te)) (hx : ev (mkSt L O) x = .dat (.v (.int κ m))) (hy : ev (mkSt L O) y = .dat (.v (.int κ' m))) (h0 : 0 ≤ m) (hb : (te.bytes : Int) * m ≤ 281474976710656) (h63 : m ≤ 9223372036854775807) {zs : List DV} (e : List.replicate m.toNat te.zero = zs)
    (k : AOps P ops cf K rest (mkSt ((d, .oref d) :: L) ((d, .row E te.size zs) :: O))) : AOps P ops cf K (o :: rest) (mkSt L O) :=
  AOps.eff hg (Step.makeown hT ho hd hn hs hx hy h0 hb h63) (by rw [hd]; subst e; exact k)

theorem AOps.append (hT : TabOk P T) {d id : Nat} {t E E' : TypeId} {te : TE} {x y : Operand} {sz : Nat} {xs ys : List DV}
    (ho : o.op = .call { callee := .builtin .append, args := #[x, y], argTypes := #[t, t] }) (hcf : cf o = true) (hd : o.dst = some d) (hg : gOn ops L o = true) (hn : lookO O d = none) (hs : slE T t = some (E, te)) (hp : Nat.ble 1 te.size = true)
    (hx : ev (mkSt L O) x = .oref id) (hob : lookO O id = some (.row E' sz xs)) (hE : Nat.beq E' E = true) (hsz : Nat.beq sz te.size = true) (hy : srcOk (mkSt L O) y sz ys) (h63 : xs.length + ys.length ≤ maxLen) (hby : (xs.length + ys.length) * te.bytes ≤ 140737488355328) {zs : List DV} (ez : xs ++ ys = zs)
    (k : AOps P ops cf K rest (mkSt ((d, .oref d) :: L) ((d, .row E sz zs) :: (id, .gone) :: O))) : AOps P ops cf K (o :: rest) (mkSt L O) := by
  subst ez
  have e := Nat.eq_of_beq_eq_true hsz
  have e' := Nat.eq_of_beq_eq_true hE
  subst e e'
  refine AOps.eff hg (e := ⟨.oref d, [(id, .gone), (d, .row E' te.size (xs ++ ys))]⟩) ?_ (by rw [hd]; exact k)
  rw [hcf]
  exact Step.append hT ho hd hn hs (Nat.le_of_ble_eq_true hp) hx hob hy h63 hby

/-- A literal, one's own. -/
theorem AOps.litown (hT : TabOk P T) {d : Nat} {t : TypeId} {m : Nat} {ps : Array (Nat × Operand)} {E : TypeId} {te : TE} {ys : List DV} (ho : o.op = .buildSlice t m ps) (hd : o.dst = some d) (hg : gOn ops L o = true) (hn : lookO O d = none)
    (hs : slE T t = some (E, te)) (hm : Nat.ble (m * te.size) 16777216 = true) (hm2 : Nat.ble m maxLen = true) (hb : buildS T E te.size (mkSt L O) ps.toList (List.replicate m te.zero) = some ys)
    (k : AOps P ops cf K rest (mkSt ((d, .oref d) :: L) ((d, .row E te.size ys) :: O))) : AOps P ops cf K (o :: rest) (mkSt L O) :=
  AOps.eff hg (Step.litown hT ho hd hn hs (Nat.le_of_ble_eq_true hm) (Nat.le_of_ble_eq_true hm2) hb) (by rw [hd]; exact k)

theorem AOps.lit (hT : TabOk P T) {d : Nat} {t : TypeId} {m : Nat} {ps : Array (Nat × Operand)} {E : TypeId} {te : TE} {ys : List DV} (ho : o.op = .buildSlice t m ps) (hd : o.dst = some d) (hg : gOn ops L o = true)
    (hs : slE T t = some (E, te)) (hm : Nat.ble (m * te.size) 16777216 = true) (hb : buildS T E te.size (mkSt L O) ps.toList (List.replicate m te.zero) = some ys)
    (k : AOps P ops cf K rest (mkSt ((d, .dat (.sl E te.size ys)) :: L) O)) : AOps P ops cf K (o :: rest) (mkSt L O) :=
  AOps.eff hg (Step.lit hT ho hs (Nat.le_of_ble_eq_true hm) hb) (by rw [hd]; exact k)

/-- The contract of a function out of what is shown of its code. -/
theorem AFn.intro' {f : FuncId} {fn : Func} {c : Code} {xs : List DV} {y : DV} {n : Nat} {rs : List ResultVar} {L : List (Nat × AV)} (hT : TabOk P T) (hf : P.funcs[f]? = some fn) (hb : fn.body = some c) (hname : (fn.name == "runtime.NumGoroutine") = false)
    (hn : fn.ntmps = n) (hr : fn.results.toList = rs) (hl : Nat.ble xs.length n = true) (hL : argL 0 xs = L) (hw : AWp P NoB n c (mkSt L []) (outQ T rs y)) : AFn P f xs y false := by
  subst hn hr hL
  exact AFn.intro hT hf hb hname (Nat.le_of_ble_eq_true hl) hw

/-- What is known less, by a list. -/
theorem AWp.list {B : Nat → Prop} {n : Nat} {c : Code} {σ : St} {Q : AExit → St → Prop} (L : List (Nat × AV)) (O : List (Nat × Obj)) (hd : distinct (fun i => i) (O.map (·.1)) = true) (hc : closedB (O.map (·.1)) L O = true)
    (hL : slotsOk (fun i => i) σ L) (hO : objsOk (fun i => i) σ O) (h : AWp P B n c (mkSt L O) Q) : AWp P B n c σ Q := AWp.sub (Sub.list (fun i => i) hd hc hL hO) h

end
end Go.Sim
