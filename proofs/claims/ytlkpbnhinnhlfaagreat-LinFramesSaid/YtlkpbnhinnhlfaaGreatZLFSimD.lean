/- What is proved: step rules for places in arrays, for function values, and for a guard that is not known; the words in which a function's walk is told. -/
import Derived.Test.YtlkpbnhinnhlfaaGreatZLFSimC
import Derived.ChangeKeysEq

namespace Go.Sim
open Go.RowKit
/-! ### Places in arrays -/
section
variable {P : Program} {N : Value → Prop} {T : Tab} {σ : St}
/-- What is called is a value. -/
def FVal (P : Program) (fv : DV) (xs : List DV) (y : DV) : Prop :=
  ∃ (f : FuncId) (cs : List DV), (fv = .fn f cs ∨ (cs = [] ∧ fv = .v (.func (.func f) #[] #[]))) ∧ (∀ c ∈ cs, c.agg = false) ∧ AFn P f (xs ++ cs) y false
theorem RepF.ones {w : World} {S : Nat → Prop} : ∀ {cs : List DV} {vs : List Value}, (∀ c ∈ cs, c.agg = false) → RepF w S cs (List.replicate cs.length 1) vs → All2 (RepV w S) cs vs
  | [], vs, _, h => by simp only [RepF] at h; obtain ⟨_, rfl⟩ := h; exact .nil
  | c :: cs, vs, ha, h => by
    simp only [List.length_cons, List.replicate_succ, RepF] at h
    obtain ⟨n, ns', c1, c2, e1, rfl, hl, h1, h2⟩ := h
    simp only [List.cons.injEq] at e1
    obtain ⟨rfl, rfl⟩ := e1
    match c1, hl with
    | [u], _ => exact .cons (RepU.v (.inr ⟨ha c (by simp), h1⟩)) (RepF.ones (fun x hx => ha x (by simp [hx])) h2)
theorem FVal.run {P : Program} {fv : DV} {xs : List DV} {y : DV} (h : FVal P fv xs y) {w : World} {S : Nat → Prop} {u : Value} (hu : RepV w S fv u) :
    ∃ (f : FuncId) (cs : List DV) (vs : List Value), u = .func (.func f) #[] vs.toArray ∧ All2 (RepV w S) cs vs ∧ AFn P f (xs ++ cs) y false := by
  obtain ⟨f, cs, h1, h2, h3⟩ := h
  rcases h1 with rfl | ⟨rfl, rfl⟩
  · simp only [RepV, RepD, List.cons.injEq, and_true] at hu
    obtain ⟨vs, rfl, hF⟩ := hu
    exact ⟨f, cs, vs, rfl, RepF.ones h2 hF, h3⟩
  · simp only [RepV, RepD, List.cons.injEq, and_true] at hu
    exact ⟨f, [], [], hu.1, .nil, h3⟩
theorem All2.append {α β : Type} {R : α → β → Prop} {az : List α} {us : List β} {bs : List α} {vs : List β} (h1 : All2 R az us) (h2 : All2 R bs vs) : All2 R (az ++ bs) (us ++ vs) := by
  induction h1 with
  | nil => exact h2
  | cons a _ ih => exact .cons a ih
theorem Step.callv {c : Bool} {o : Oper} {fo : Operand} {args : List Operand} {ats : Array TypeId} {fv : DV} {xs : List DV} {y : DV}
    (ho : o.op = .call { callee := .value fo, args := args.toArray, argTypes := ats }) (hfo : ev σ fo = .dat fv) (hc : FVal P fv xs y) (ha : argsOk σ false args xs) : Step P N c σ o ⟨.dat y, []⟩ where
  ok := by
    rintro σ' ⟨g1, g2, g3⟩ B F w0 n a w hd ⟨g, r⟩ Q _
    have hops : ∀ x ∈ args, x ∈ o.op.operands := fun x hx => by rw [ho]; simp [Op.operands, Call.operands, hx]
    have hfop : fo ∈ o.op.operands := by rw [ho]; simp [Op.operands, Call.operands]
    have hl : looks o = true := by simp [looks, ho]
    have ha' := argsOk_agree args xs (fun x hx => g1 x (hops x hx)) (fun x hx => g3 hl x (hops x hx)) ha
    have hrep := argsOk_rep r args xs ha'
    have hev := ev_rep r fo
    rw [g1 fo hfop, hfo] at hev
    obtain ⟨f, cs, vs, efo, hcs, ⟨fn, hf, hname, hbody⟩, hcalls⟩ := hc.run hev
    have hall := hrep.append (hcs.imp fun x u hu => RepV.frame (S' := fun k => g.S k ∨ (false = true ∧ ∃ id, g.has id ∧ k = g.blk id)) (fun _ hk => .inl hk) (fun _ _ _ => rfl) hu)
    have hcall := hcalls _ w _ (r.gok fun _ _ h => h.elim) hall
    unfold Oper.wp
    have hrun : (execOp a.eval o).run P w = .ok (.enter f (args.map a.eval ++ vs).toArray) w := by
      simp only [execOp, ho, resolve, efo, Deferred.ofValue, Sem.run_bind, Sem.run_pure, Result.andThen_ok, invoke, callFunc, run_program, hf, hname, hbody]
      simp
    rw [hrun, Oper.upon_enter]
    refine hcall.mono ?_
    rintro e w' ⟨v, rfl, hb, hv⟩
    have hw := r.world (w' := w') hb.os hb.tape hb.output hb.size hb.block (fun k => w.heap.size ≤ k ∧ k < w'.heap.size) (fun k hk => hk)
    refine ⟨_, RelG.putO hw o.dst (x := .dat y) (RepV.frame (fun k hk => ?_) (fun _ _ _ => rfl) hv.restrict) (fun k hk => by simp [AV.refs] at hk) hd⟩
    obtain ⟨hk, hlt⟩ := hk
    rcases hk with ⟨hfr, hk⟩ | hk
    · rcases hk with hk | ⟨h1, _⟩
      · exact .inl hk
      · cases h1
    · exact .inr ⟨hk, hlt⟩
  objs := fun p hp => by cases hp
  okk := fun σ' _ ok => Ok_dat ok o.dst y
  near := fun _ _ k hk => by simp [AV.refs] at hk
end
section
variable {P : Program} {N : Value → Prop} {T : Tab} {ops : Array Oper} {cf : Oper → Bool} {K : AExit → St → Prop} {o : Oper} {rest : List Oper} {L : List (Nat × AV)} {O : List (Nat × Obj)}
theorem mkSt_lit {i : Nat} {b : Bool} (h : look L i = .dat (.v (.bool b))) : mkSt L O = mkSt ((i, .dat (.v (.bool b))) :: L) O := by
  unfold mkSt
  congr 1
  funext j
  simp only [look]
  split
  · rename_i hj
    have := Nat.eq_of_beq_eq_true hj
    subst this
    exact h
  · rfl
/-- A truth value in a slot: each of the two. -/
theorem AOps.splitB {l : List Oper} (i : Nat) {b : Bool} (h : look L i = .dat (.v (.bool b))) (ht : b = true → AOps P ops cf K l (mkSt ((i, .dat (.v (.bool true))) :: L) O)) (hf : b = false → AOps P ops cf K l (mkSt ((i, .dat (.v (.bool false))) :: L) O)) :
    AOps P ops cf K l (mkSt L O) := by
  rw [mkSt_lit h]
  cases b
  · exact hf rfl
  · exact ht rfl
theorem AOps.callv {d : Nat} {fo : Operand} {args : List Operand} {ats : Array TypeId} {fv : DV} {xs : List DV} {y : DV} (hc : FVal P fv xs y) (hd : o.dst = some d) (hg : gOn ops L o = true)
    (ho : o.op = .call { callee := .value fo, args := args.toArray, argTypes := ats }) (hfo : ev (mkSt L O) fo = .dat fv) (ha : argsOk (mkSt L O) false args xs) (k : AOps P ops cf K rest (mkSt ((d, .dat y) :: L) O)) : AOps P ops cf K (o :: rest) (mkSt L O) :=
  AOps.v hd hg (Step.callv ho hfo hc ha) k
end
/-! ### Words -/
def Br (c : Bool) (A B : Prop) : Prop := (c = true → A) ∧ (c = false → B)
def Let {α : Type} (e : α) (k : α → Prop) : Prop := ∀ x, x = e → k x
def Call {α : Type} (R : α → Prop) (k : α → Prop) : Prop := ∃ x, R x ∧ k x
/-- What stands at a place. -/
def At {α : Type} (xs : List α) (i : Int) (k : α → Prop) : Prop := 0 ≤ i ∧ ∃ x, xs[i.toNat]? = some x ∧ k x
/-- A byte of a string. -/
def AtS (s : ByteArray) (i : Int) (k : Int → Prop) : Prop := 0 ≤ i ∧ ∃ b : UInt8, s[i.toNat]? = some b ∧ k b.toNat
theorem Let.get {α : Type} {e : α} {k : α → Prop} (h : Let e k) : ∃ x, e = x ∧ k x := ⟨e, rfl, h e rfl⟩
theorem map_get {α : Type} {e : α → DV} {xs : List α} {m : Nat} {x : α} (h : xs[m]? = some x) : (xs.map e)[m]? = some (e x) := by simp [h]
theorem map_lt {α : Type} {e : α → DV} {xs : List α} {i : Int} {x : α} (h0 : 0 ≤ i) (h : xs[i.toNat]? = some x) : i < ((xs.map e).length : Nat) := by
  have := (List.getElem?_eq_some_iff.1 h).1
  simp; omega
def Join1 {α : Type} (b : (α → Prop) → Prop) (k : α → Prop) : Prop := ∃ I : α → Prop, b I ∧ ∀ x0, I x0 → k x0
def Loop1 {α : Type} (x0 : α) (b : α → (α → Prop) → Prop) : Prop := ∃ (I : α → Prop) (μ : α → Nat), I x0 ∧ ∀ y0, I y0 → b y0 (fun z0 => I z0 ∧ μ z0 < μ y0)
def Join2 {α β : Type} (b : (α → β → Prop) → Prop) (k : α → β → Prop) : Prop := ∃ I : α → β → Prop, b I ∧ ∀ x0 x1, I x0 x1 → k x0 x1
def Loop2 {α β : Type} (x0 : α) (x1 : β) (b : α → β → (α → β → Prop) → Prop) : Prop := ∃ (I : α → β → Prop) (μ : α → β → Nat), I x0 x1 ∧ ∀ y0 y1, I y0 y1 → b y0 y1 (fun z0 z1 => I z0 z1 ∧ μ z0 z1 < μ y0 y1)
def Loop3 {α β γ : Type} (x0 : α) (x1 : β) (x2 : γ) (b : α → β → γ → (α → β → γ → Prop) → Prop) : Prop := ∃ (I : α → β → γ → Prop) (μ : α → β → γ → Nat), I x0 x1 x2 ∧ ∀ y0 y1 y2, I y0 y1 y2 → b y0 y1 y2 (fun z0 z1 z2 => I z0 z1 z2 ∧ μ z0 z1 z2 < μ y0 y1 y2)
end Go.Sim
/- What is proved: a slot read otherwise; a box that is shared from now on; results that hold no memory; equality of structs and arrays. -/
namespace Go.Sim
open Go.RowKit
/-- A slot is read otherwise. -/
theorem Sub.slot {L : List (Nat × AV)} {O : List (Nat × Obj)} (i : Nat) {x : AV} (hx : ∀ w g u, RepS w g (look L i) u → RepS w g x u) (hr : ∀ k, x.refs k → (look L i).refs k) : Sub (mkSt ((i, x) :: L) O) (mkSt L O) := by
  rintro B F w0 n a w ⟨g, r⟩
  refine ⟨g, { os := r.os, tape := r.tape, output := r.output, size := r.size, old := r.old, n := r.n, nlt := r.nlt, glob := r.glob, defers := r.defers, sF := r.sF, sB := r.sB, own := r.own, dj := r.dj, slots := fun j => ?_, objs := r.objs, ok := ⟨fun j k hk => ?_, r.ok.2⟩, hv := r.hv, sub := r.sub }⟩
  · have hs := r.slots j
    simp only [mkSt, look] at hs ⊢
    split
    · rename_i hj
      have := Nat.eq_of_beq_eq_true hj
      subst this
      exact hx _ _ _ hs
    · exact hs
  · simp only [mkSt, look] at hk
    split at hk
    · rename_i hj
      have := Nat.eq_of_beq_eq_true hj
      subst this
      exact r.ok.1 j k (hr k hk)
    · exact r.ok.1 j k hk
/-! ### Results that hold no memory -/
mutual
def bare : DV → Bool
  | .v _ => true
  | .st _ xs => bareL xs
  | .ar _ xs => bareL xs
  | .tup xs => bareL xs
  | .any _ => true
  | _ => false
def bareL : List DV → Bool
  | [] => true
  | x :: xs => bare x && bareL xs
end
mutual
theorem RepD.bare {w w' : World} {S S' : Nat → Prop} : ∀ (x : DV) (cs : List Value), Sim.bare x = true → RepD w S x cs → RepD w' S' x cs
  | .v x, cs, _, h => by simp only [RepD] at h ⊢; exact h
  | .st ns xs, cs, hb, h => RepF.bare xs ns cs (by simpa only [Sim.bare] using hb) h
  | .ar sz xs, cs, hb, h => RepF.bare xs _ cs (by simpa only [Sim.bare] using hb) h
  | .sl .., _, hb, _ => by simp [Sim.bare] at hb
  | .tup _, _, _, h => by simp only [RepD] at h
  | .pd _, _, hb, _ => by simp [Sim.bare] at hb
  | .fn .., _, hb, _ => by simp [Sim.bare] at hb
  | .any _, _, _, h => by simp only [RepD] at h ⊢; exact h
  | .mp .., _, hb, _ => by simp [Sim.bare] at hb
theorem RepF.bare {w w' : World} {S S' : Nat → Prop} : ∀ (xs : List DV) (ns : List Nat) (cs : List Value), bareL xs = true → RepF w S xs ns cs → RepF w' S' xs ns cs
  | [], ns, cs, _, h => by simp only [RepF] at h ⊢; exact h
  | x :: xs, ns, cs, hb, h => by
    simp only [bareL, Bool.and_eq_true] at hb
    simp only [RepF] at h ⊢
    obtain ⟨n, ns', c1, c2, e1, e2, e3, h1, h2⟩ := h
    exact ⟨n, ns', c1, c2, e1, e2, e3, RepD.bare x c1 hb.1 h1, RepF.bare xs ns' c2 hb.2 h2⟩
end
theorem RepV.bare {w w' : World} {S S' : Nat → Prop} {x : DV} {u : Value} (hb : Sim.bare x = true) (h : RepV w S x u) : RepV w' S' x u := by
  cases x with
  | v x => exact RepD.bare (w := w) (w' := w') (S := S) (S' := S') (.v x) [u] hb h
  | st ns xs => obtain ⟨cs, e, hd⟩ := h; exact ⟨cs, e, RepD.bare _ _ hb hd⟩
  | ar ns xs => obtain ⟨cs, e, hd⟩ := h; exact ⟨cs, e, RepD.bare _ _ hb hd⟩
  | sl E sz xs => simp [Sim.bare] at hb
  | tup xs =>
    simp only [Sim.bare] at hb
    obtain ⟨us, e, hf⟩ := h
    refine ⟨us, e, ?_⟩
    clear e
    induction hf with
    | nil => exact .nil
    | cons a _ ih =>
      simp only [bareL, Bool.and_eq_true] at hb
      refine .cons ?_ (ih hb.2)
      rcases a with ⟨a1, cs, e, a2⟩ | ⟨a1, a2⟩
      · exact .inl ⟨a1, cs, e, RepD.bare _ _ hb.1 a2⟩
      · exact .inr ⟨a1, RepD.bare _ _ hb.1 a2⟩
  | pd x => simp [Sim.bare] at hb
  | fn f xs => simp [Sim.bare] at hb
  | any p => exact RepD.bare (w := w) (w' := w') (S := S) (S' := S') (.any p) [u] hb h
  | mp ks xs => simp [Sim.bare] at hb
/-- A result without memory shares none. -/
theorem AFn.fresh {P : Program} {f : FuncId} {xs : List DV} {y : DV} (hb : bare y = true) (h : AFn P f xs y false) : AFn P f xs y true :=
  ⟨h.1, fun F w vs hgl hvs => (h.2 F w vs hgl hvs).mono fun _ _ ⟨v, h1, h2, h3⟩ => ⟨v, h1, h2, RepV.bare hb h3⟩⟩
/-! ### Equality -/
/-- Two rows, place by place. -/
def allEq {α : Type} (beq : α → α → Bool) : List α → List α → Bool
  | [], [] => true
  | x :: xs, y :: ys => beq x y && allEq beq xs ys
  | _, _ => false
theorem eqItems_run {P : Program} {T : Tab} (hT : TabOk P T) {α : Type} {enc : α → DV} {beq : α → α → Bool} {d : Nat} {e : TypeId} {te : TE} (he : tget T e = some te) (h : ∀ x y, EqOk P d e (enc x) (enc y) (beq x y)) (hm : ∀ x, aggMatch te (.dat (enc x)) = true) {w : World} {S : Nat → Prop} :
    ∀ (xs ys : List α) (k : Nat) (p q c1 c2 : List Value), xs.length = ys.length → p.length = k * te.size → q.length = k * te.size → RepF w S (xs.map enc) (List.replicate xs.length te.size) c1 → RepF w S (ys.map enc) (List.replicate ys.length te.size) c2 →
      (Op.eqItems d e te.size (p ++ c1).toArray (q ++ c2).toArray (List.range' k xs.length)).run P w = .ok (allEq beq xs ys) w
  | [], [], _, _, _, _, _, _, _, _, _, _ => by simp [Op.eqItems, allEq]
  | x :: xs, y :: ys, k, p, q, c1, c2, hl, hp, hq, hx, hy => by
    simp only [List.map_cons, List.length_cons, List.replicate_succ, RepF] at hx hy
    obtain ⟨n, ns', d1, d2, e1, rfl, l1, hx1, hx2⟩ := hx
    obtain ⟨n', ns'', f1, f2, e2, rfl, l2, hy1, hy2⟩ := hy
    simp only [List.cons.injEq] at e1 e2
    obtain ⟨rfl, rfl⟩ := e1
    obtain ⟨rfl, rfl⟩ := e2
    let g : Gh := { S := S, blk := fun _ => 0, hdr := fun _ => .bool true, has := fun _ => False, sub := fun _ _ _ => False }
    obtain ⟨r1, hr1, rep1⟩ := run_part (w := w) (g := g) (hT _ _ he) (y := .dat (enc x)) (c1 := p) (c2 := d1) (c3 := d2) hx1 (hm x)
    obtain ⟨r2, hr2, rep2⟩ := run_part (w := w) (g := g) (hT _ _ he) (y := .dat (enc y)) (c1 := q) (c2 := f1) (c3 := f2) hy1 (hm y)
    rw [hp, List.append_assoc] at hr1
    rw [hq, List.append_assoc] at hr2
    have ih := eqItems_run hT he h hm xs ys (k + 1) (p ++ d1) (q ++ f1) d2 f2 (by simpa using hl) (by simp [hp, l1, Nat.succ_mul]) (by simp [hq, l2, Nat.succ_mul]) hx2 hy2
    rw [List.append_assoc, List.append_assoc] at ih
    simp only [List.length_cons, List.range'_succ, Op.eqItems, Sem.run_bind, hr1, hr2, Result.andThen_ok, h x y w S r1 r2 rep1 rep2, allEq]
    cases beq x y
    · simp
    · simp [ih]
  | [], _ :: _, _, _, _, _, _, hl, _, _, _, _ => by simp at hl
  | _ :: _, [], _, _, _, _, _, hl, _, _, _, _ => by simp at hl
/-- Arrays, place by place. -/
theorem EqOk.arr {P : Program} {T : Tab} (hT : TabOk P T) {α : Type} {enc : α → DV} {beq : α → α → Bool} {d n : Nat} {t e : TypeId} {te : TE} (hu : P.underlying t = some (.array n e)) (he : tget T e = some te) (hs : P.cellsOf e = te.size) (h : ∀ x y, EqOk P d e (enc x) (enc y) (beq x y))
    (hm : ∀ x, aggMatch te (.dat (enc x)) = true) (xs ys : Vector α n) : EqOk P (d + 1) t (.ar te.size (xs.toList.map enc)) (.ar te.size (ys.toList.map enc)) (allEq beq xs.toList ys.toList) := by
  intro w S u v hu' hv'
  obtain ⟨cs, rfl, hx⟩ := hu'
  obtain ⟨ds, rfl, hy⟩ := hv'
  obtain ⟨i, _, _, hi, _⟩ := hT _ _ he
  rw [run_equalIn_array w d _ _ hu hi, hs]
  simp only [RepD] at hx hy
  have := eqItems_run hT he h hm (w := w) (S := S) xs.toList ys.toList 0 [] [] cs ds (by simp) (by simp) (by simp) (by simpa using hx) (by simpa using hy)
  simpa [List.range_eq_range'] using this
section
variable {P : Program} {N : Value → Prop} {T : Tab} {ops : Array Oper} {cf : Oper → Bool} {K : AExit → St → Prop} {o : Oper} {rest : List Oper} {L : List (Nat × AV)} {O : List (Nat × Obj)}
theorem AOps.eqs {d : Nat} {t t' : TypeId} {x y : Operand} {u v : DV} {b : Bool} (ho : o.op = .binOp .eql t x y t') (hd : o.dst = some d) (hg : gOn ops L o = true) (hx : ev (mkSt L O) x = .dat u) (hy : ev (mkSt L O) y = .dat v)
    (hu : u.agg = true) (hv : v.agg = true) (hgu : P.eqGuardType P.depth t = false) (h : EqOk P 10000 t u v b) (k : AOps P ops cf K rest (mkSt ((d, .dat (.v (.bool b))) :: L) O)) : AOps P ops cf K (o :: rest) (mkSt L O) :=
  AOps.eqst (op := .eql) (.inl rfl) ho hd hg hx hy hu hv hgu h (fun c e => by rw [if_neg (by decide)] at e; subst e; exact k)
end
end Go.Sim
/- What is proved: the words in which a function's walk is told, and the rules that read them. -/
namespace Go.Sim
open Go.RowKit
abbrev eInt (k : IntKind) (n : Int) : DV := .v (.int k n)
abbrev eFlt (k : FloatKind) (n : Nat) : DV := .v (.float k n)
abbrev eSl {α : Type} (E : TypeId) (sz : Nat) (e : α → DV) (xs : List α) : DV := .sl E sz (List.map e xs)
/-- What a whole number, and a float, of an argument is. -/
def okInt (k : IntKind) (n : Int) : Prop := k.min ≤ n ∧ n ≤ k.max
def okFlt (b : Nat) : Prop := (Lit.float .f64 b).wf = true
/-- A count. -/
def Nn (n : Int) (k : Prop) : Prop := 0 ≤ n ∧ k
def Cat (a b : ByteArray) (k : ByteArray → Prop) : Prop := a.size + b.size ≤ 9223372036854775807 ∧ Let (a ++ b) k
def FOp (op : BinOp) (a b : Nat) (k : Nat → Prop) : Prop := ∃ r, farith op .f64 a b = some r ∧ k r
/-- A part of a slice. -/
def Sl {α : Type} (xs : List α) (lo hi : Int) (k : List α → Prop) : Prop := 0 ≤ lo ∧ lo ≤ hi ∧ hi ≤ xs.length ∧ Let ((xs.drop lo.toNat).take (hi.toNat - lo.toNat)) k
/-- A slice that is made. -/
def Mk {α : Type} (b : Nat) (n : Int) (z : α) (k : List α → Prop) : Prop := 0 ≤ n ∧ (b : Int) * n ≤ 281474976710656 ∧ n ≤ 9223372036854775807 ∧ Let (List.replicate n.toNat z) k
/-- What is appended. -/
def App {α : Type} (b : Nat) (xs ys : List α) (k : List α → Prop) : Prop := xs.length + ys.length ≤ maxLen ∧ (xs.length + ys.length) * b ≤ 140737488355328 ∧ Let (xs ++ ys) k
theorem Let.as {α : Type} {e : α} {k : α → Prop} (v : α) (he : e = v) (h : k v) : Let e k := fun _ hx => (hx.trans he) ▸ h
theorem Let.it {α : Type} {e : α} {k : α → Prop} (h : k e) : Let e k := fun x hx => by subst hx; exact h
theorem Br.t {c : Bool} {A B : Prop} (hc : c = true) (h : A) : Br c A B := ⟨fun _ => h, fun hn => by (rw [hc] at hn; cases hn)⟩
theorem Br.f {c : Bool} {A B : Prop} (hc : c = false) (h : B) : Br c A B := ⟨fun hn => by (rw [hc] at hn; cases hn), fun _ => h⟩
theorem Br.dT {p : Prop} [Decidable p] {A B : Prop} (hc : p) (h : A) : Br (decide p) A B := Br.t (by simpa using hc) h
theorem Br.dF {p : Prop} [Decidable p] {A B : Prop} (hc : ¬ p) (h : B) : Br (decide p) A B := Br.f (by simpa using hc) h
theorem Br.d {p : Prop} [Decidable p] {A B : Prop} (ht : p → A) (hf : ¬ p → B) : Br (decide p) A B := ⟨fun h => ht (by simpa using h), fun h => hf (by simpa using h)⟩
theorem Br.eT {a b : Int} {A B : Prop} (hc : a = b) (h : A) : Br (a == b) A B := Br.t (by simpa using hc) h
theorem Br.eF {a b : Int} {A B : Prop} (hc : a ≠ b) (h : B) : Br (a == b) A B := Br.f (by simpa using hc) h
theorem Br.e {a b : Int} {A B : Prop} (ht : a = b → A) (hf : a ≠ b → B) : Br (a == b) A B := ⟨fun h => ht (by simpa using h), fun h => hf (by simpa using h)⟩
theorem Call.mk {α : Type} {R k : α → Prop} {x : α} (h1 : R x) (h2 : k x) : Call R k := ⟨x, h1, h2⟩
theorem At.mk {α : Type} {xs : List α} {i : Int} {k : α → Prop} (h0 : 0 ≤ i) (h1 : i < xs.length) (h : ∀ x, xs[i.toNat]? = some x → k x) : At xs i k :=
  ⟨h0, xs[i.toNat]'(by omega), List.getElem?_eq_getElem _, h _ (List.getElem?_eq_getElem _)⟩
theorem Cat.get {a b : ByteArray} {k : ByteArray → Prop} (h : Cat a b k) : a.size + b.size ≤ 9223372036854775807 ∧ ∃ x, a ++ b = x ∧ k x := ⟨h.1, h.2.get⟩
theorem Sl.get {α : Type} {xs : List α} {lo hi : Int} {k : List α → Prop} (h : Sl xs lo hi k) : 0 ≤ lo ∧ lo ≤ hi ∧ hi ≤ xs.length ∧ ∃ x, (xs.drop lo.toNat).take (hi.toNat - lo.toNat) = x ∧ k x := ⟨h.1, h.2.1, h.2.2.1, h.2.2.2.get⟩
theorem Mk.get {α : Type} {b : Nat} {n : Int} {z : α} {k : List α → Prop} (h : Mk b n z k) : 0 ≤ n ∧ (b : Int) * n ≤ 281474976710656 ∧ n ≤ 9223372036854775807 ∧ ∃ x, List.replicate n.toNat z = x ∧ k x := ⟨h.1, h.2.1, h.2.2.1, h.2.2.2.get⟩
theorem App.get {α : Type} {b : Nat} {xs ys : List α} {k : List α → Prop} (h : App b xs ys k) : xs.length + ys.length ≤ maxLen ∧ (xs.length + ys.length) * b ≤ 140737488355328 ∧ ∃ x, xs ++ ys = x ∧ k x := ⟨h.1, h.2.1, h.2.2.get⟩
theorem AtS.get {s : ByteArray} {i : Int} {k : Int → Prop} (h : AtS s i k) : 0 ≤ i ∧ ∃ x : Int, (∃ b, s[i.toNat]? = some b ∧ (b.toNat : Int) = x) ∧ k x := by
  obtain ⟨h0, b, hb, hk⟩ := h
  exact ⟨h0, _, ⟨b, hb, rfl⟩, hk⟩
theorem app1 {α : Type} {e : α → DV} {xs ys : List α} (h : xs.length + ys.length ≤ maxLen) : (xs.map e).length + (ys.map e).length ≤ maxLen := by simpa using h
theorem app2 {α : Type} {e : α → DV} {xs ys : List α} {b : Nat} (h : (xs.length + ys.length) * b ≤ 140737488355328) : ((xs.map e).length + (ys.map e).length) * b ≤ 140737488355328 := by simpa using h
theorem app3 {α : Type} {e : α → DV} {xs ys zs : List α} (h : xs ++ ys = zs) : xs.map e ++ ys.map e = zs.map e := by simp [← h]
theorem map_lt2 {α : Type} {e : α → DV} {xs : List α} {m : Nat} {x : α} (h : xs[m]? = some x) : m < (xs.map e).length := by
  have := (List.getElem?_eq_some_iff.1 h).1
  simpa using this
theorem map_set1 {α : Type} {e : α → DV} {xs : List α} {m : Nat} {x : α} : (xs.map e).set m (e x) = (xs.set m x).map e := by rw [List.map_set]
/-- A part of a code, with what is known behind it told in full. -/
theorem AWp.cutK {P : Program} {B : Nat → Nat → Prop} {n : Nat} {x y : Code} {σ : St} {Q : AExit → St → Prop} {ι : Type} (I : ι → St) (Inv : ι → Prop) (h1 : AWp P B n x σ (thenQ (fun σ' => ∃ i, Inv i ∧ Sub (I i) σ') Q)) (h2 : ∀ i, Inv i → AWp P B n y (I i) Q) :
    AWp P B n x σ (thenQ (fun σ' => AWp P B n y σ' Q) Q) :=
  AWp.mono h1 fun e σ' hq => by
    cases e with
    | normal => obtain ⟨i, hi, hs⟩ := hq; exact AWp.sub hs (h2 i hi)
    | exit k => exact hq
    | ret => exact hq
    | panic v => exact hq
/-- The greater, and the smaller one. -/
def opMaxI (a b : Int) : Int := if b > a then b else a
def opMinI (a b : Int) : Int := if b < a then b else a
theorem Step.mv {P : Program} {N : Value → Prop} {σ : St} {c : Bool} {o : Oper} {x : Operand} {d : DV} (ho : o.op = .move x ∨ o.op = .assign x) (hx : ev σ x = .dat d) : Step P N c σ o ⟨.dat d, []⟩ := by
  refine Step.value (fun σ' hA B F w0 n a w g rr => ?_) (fun _ _ _ k hk => by simp [AV.refs] at hk)
  have hev := ev_rep rr x
  rw [hA.1 x (by rcases ho with ho | ho <;> simp [ho, Op.operands]), hx] at hev
  exact ⟨a.eval x, by rcases ho with ho | ho <;> simp [execOp, ho], hev⟩
section
variable {P : Program} {N : Value → Prop} {T : Tab} {ops : Array Oper} {cf : Oper → Bool} {K : AExit → St → Prop} {o : Oper} {rest : List Oper} {L : List (Nat × AV)} {O : List (Nat × Obj)}
/-- What a function that the model stands in for hands back for plain values. -/
def ExtOk (P : Program) (f : FuncId) (vals : List Value) (y : DV) : Prop := ∃ v, (∀ w, (callFunc f vals.toArray).run P w = .ok (.value v) w) ∧ ∀ (w : World) (S : Nat → Prop), RepV w S y v
theorem AOps.extC {d : Nat} {f : FuncId} {args : List Operand} {ats : Array TypeId} {vals : List Value} {y : DV} (hc : ExtOk P f vals y)
    (hd : o.dst = some d) (hg : gOn ops L o = true) (ho : o.op = .call { callee := .value (.func f), args := args.toArray, argTypes := ats }) (hv : All2 (fun x u => (ev (mkSt L O) x).raw = some u) args vals)
    (k : AOps P ops cf K rest (mkSt ((d, .dat y) :: L) O)) : AOps P ops cf K (o :: rest) (mkSt L O) :=
  let ⟨_, h1, h2⟩ := hc
  AOps.ext h1 h2 hd hg ho hv k
/-- A value of any kind, once more. -/
theorem AOps.mv {d : Nat} {x : Operand} {y : DV} (hd : o.dst = some d) (hg : gOn ops L o = true) (ho : o.op = .move x ∨ o.op = .assign x) (hx : ev (mkSt L O) x = .dat y) (k : AOps P ops cf K rest (mkSt ((d, .dat y) :: L) O)) : AOps P ops cf K (o :: rest) (mkSt L O) :=
  AOps.v hd hg (Step.mv ho hx) k
/-- A float, by another name. -/
theorem AOps.fl (hT : TabOk P T) {d : Nat} {κ : FloatKind} {i j : Nat} (hd : o.dst = some d) (hg : gOn ops L o = true) (h : opV T (mkSt L O) o = some (.dat (.v (.float κ i)))) (e : i = j) (k : AOps P ops cf K rest (mkSt ((d, .dat (.v (.float κ j))) :: L) O)) :
    AOps P ops cf K (o :: rest) (mkSt L O) := AOps.v hd hg (Step.pure hT (e ▸ h)) k
/-- A bound, az a whole number. -/
def loOkI (σ : St) : Option Operand → Int → Prop
  | none, l => l = 0
  | some x, l => ∃ k, ev σ x = .dat (.v (.int k l))
def hiOkI (σ : St) (n : Nat) : Option Operand → Int → Prop
  | none, h => h = n
  | some x, h => ∃ k, ev σ x = .dat (.v (.int k h))
theorem AOps.cutE (hT : TabOk P T) {α : Type} {e : α → DV} {d : Nat} {t E E' : TypeId} {te : TE} {x : Operand} {lo hi : Option Operand} {l h : Int} {sz : Nat} {xs : List α} (ho : o.op = .slice t x lo hi none) (hd : o.dst = some d) (hg : gOn ops L o = true) (hs : slE T t = some (E, te))
    (hx : ev (mkSt L O) x = .dat (.sl E' sz (xs.map e))) (hsz : Nat.beq sz te.size = true) (hlo : loOkI (mkSt L O) lo l) (hhi : hiOkI (mkSt L O) xs.length hi h) (h1 : 0 ≤ l) (h2 : l ≤ h) (h3 : h ≤ xs.length) {zs : List α} (ez : (xs.drop l.toNat).take (h.toNat - l.toNat) = zs)
    (k : AOps P ops cf K rest (mkSt ((d, .dat (.sl E' sz (zs.map e))) :: L) O)) : AOps P ops cf K (o :: rest) (mkSt L O) := by
  subst ez
  refine AOps.cut hT (l := l.toNat) (h := h.toNat) ho hd hg hs hx hsz ?_ ?_ (by omega) (by simp; omega) (by rw [← List.map_drop, ← List.map_take]) k
  · cases lo with
    | none => simp only [loOkI] at hlo; subst hlo; rfl
    | some z => obtain ⟨κ, hκ⟩ := hlo; exact ⟨κ, by rw [hκ]; congr 3; omega⟩
  · cases hi with
    | none => simp only [hiOkI] at hhi; subst hhi; simp [hiOk]
    | some z => obtain ⟨κ, hκ⟩ := hhi; exact ⟨κ, by rw [hκ]; congr 3; omega⟩
theorem AOps.makeownE (hT : TabOk P T) {α : Type} {e : α → DV} {z : α} {d : Nat} {t : TypeId} {x y : Operand} {E : TypeId} {te : TE} {κ κ' : IntKind} {m : Int} (ho : o.op = .makeSlice t x y) (hd : o.dst = some d) (hg : gOn ops L o = true) (hn : lookO O d = none)
    (hs : slE T t = some (E, te)) (hx : ev (mkSt L O) x = .dat (.v (.int κ m))) (hy : ev (mkSt L O) y = .dat (.v (.int κ' m))) (h0 : 0 ≤ m) (hb : (te.bytes : Int) * m ≤ 281474976710656) (h63 : m ≤ 9223372036854775807) (hz : e z = te.zero) {zs : List α} (ez : List.replicate m.toNat z = zs)
    (k : AOps P ops cf K rest (mkSt ((d, .oref d) :: L) ((d, .row E te.size (zs.map e)) :: O))) : AOps P ops cf K (o :: rest) (mkSt L O) :=
  AOps.makeown hT ho hd hg hn hs hx hy h0 hb h63 (by rw [← ez, List.map_replicate, hz]) k
end
end Go.Sim
