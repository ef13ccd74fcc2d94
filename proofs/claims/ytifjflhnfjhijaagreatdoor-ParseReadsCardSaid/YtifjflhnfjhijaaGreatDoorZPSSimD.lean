/- What is proved: step rules for places in arrays, for function values, and for a guard that is not known; the words in which a function's walk is told. -/
import Derived.Test.YtifjflhnfjhijaaGreatDoorZPSSimC
import Derived.ChangeKeysEq

namespace Go.Sim
open Go.RowKit
section
variable {P : Program} {N : Value -> Prop} {T : Tab} {σ : St}
def FVal (P : Program) (fv : DV) (xs : List DV) (y : DV) : Prop :=
 ∃ (f : FuncId) (cs : List DV), (fv = .fn f cs \/ (cs = [] /\ fv = .v (.func (.func f) #[] #[]))) /\ (∀ c ∈ cs, c.agg = false) /\ AFn P f (xs ++ cs) y false
theorem RepF.ones {w : World} {S : Nat -> Prop} : ∀ {cs : List DV} {vs : List Value}, (∀ c ∈ cs, c.agg = false) -> RepF w S cs (List.replicate cs.length 1) vs -> All2 (RepV w S) cs vs
 | [], vs, _, h => by simp only [RepF] at h; obtain ⟨_, rfl⟩ := h; exact .nil
 | c :: cs, vs, ha, h => by
  simp only [List.length_cons, List.replicate_succ, RepF] at h
  obtain ⟨n, ns', c1, c2, e1, rfl, hl, h1, h2⟩ := h
  simp only [List.cons.injEq] at e1
  obtain ⟨rfl, rfl⟩ := e1
  match c1, hl with
  | [u], _ => exact .cons (RepU.v (.inr ⟨ha c (by simp), h1⟩)) (RepF.ones (fun x hx => ha x (by simp [hx])) h2)
theorem FVal.run {P : Program} {fv : DV} {xs : List DV} {y : DV} (h : FVal P fv xs y) {w : World} {S : Nat -> Prop} {u : Value} (hu : RepV w S fv u) :
    ∃ (f : FuncId) (cs : List DV) (vs : List Value), u = .func (.func f) #[] vs.toArray /\ All2 (RepV w S) cs vs /\ AFn P f (xs ++ cs) y false := by
  obtain ⟨f, cs, h1, h2, h3⟩ := h
  rcases h1 with rfl | ⟨rfl, rfl⟩
  · simp only [RepV, RepD, List.cons.injEq, and_true] at hu
    obtain ⟨vs, rfl, hF⟩ := hu
    exact ⟨f, cs, vs, rfl, RepF.ones h2 hF, h3⟩
  · simp only [RepV, RepD, List.cons.injEq, and_true] at hu
    exact ⟨f, [], [], hu.1, .nil, h3⟩
theorem All2.append {α β : Type} {R : α -> β -> Prop} {az : List α} {us : List β} {bs : List α} {vs : List β} (h1 : All2 R az us) (h2 : All2 R bs vs) : All2 R (az ++ bs) (us ++ vs) := by
 induction h1 with
 | nil => exact h2
 | cons a _ ih => exact .cons a ih
theorem Step.callv {c : Bool} {o : Oper} {fo : Operand} {args : List Operand} {ats : Array TypeId} {fv : DV} {xs : List DV} {y : DV}
    (ho : o.op = .call { callee := .value fo, args := args.toArray, argTypes := ats }) (hfo : ev σ fo = .dat fv) (hc : FVal P fv xs y) (ha : q3t σ false args xs) : Step P N c σ o ⟨.dat y, []⟩ where
  ok := by
    rintro σ' ⟨g1, g2, g3⟩ B F w0 n a w hd ⟨g, r⟩ Q _
    have hops : ∀ x ∈ args, x ∈ o.op.operands := fun x hx => by rw [ho]; simp [Op.operands, Call.operands, hx]
    have hfop : fo ∈ o.op.operands := by rw [ho]; simp [Op.operands, Call.operands]
    have hl : looks o = true := by simp [looks, ho]
    have ha' := q5p args xs (fun x hx => g1 x (hops x hx)) (fun x hx => g3 hl x (hops x hx)) ha
    have hrep := q72 r args xs ha'
    have hev := ev_rep r fo
    rw [g1 fo hfop, hfo] at hev
    obtain ⟨f, cs, vs, efo, hcs, ⟨fn, hf, hname, hbody⟩, hcalls⟩ := hc.run hev
    have hall := hrep.append (hcs.imp fun x u hu => RepV.frame (S' := fun k => g.S k \/ (false = true /\ ∃ id, g.has id /\ k = g.blk id)) (fun _ hk => .inl hk) (fun _ _ _ => rfl) hu)
    have hcall := hcalls _ w _ (r.gok fun _ _ h => h.elim) hall
    unfold Oper.wp
    have hrun : (execOp a.eval o).run P w = .ok (.enter f (args.map a.eval ++ vs).toArray) w := by
      simp only [execOp, ho, resolve, efo, Deferred.ofValue, Sem.run_bind, Sem.run_pure, Result.andThen_ok, invoke, callFunc, run_program, hf, hname, hbody]
      simp
    rw [hrun, Oper.upon_enter]
    refine hcall.mono ?_
    rintro e w' ⟨v, rfl, hb, hv⟩
    have hw := r.world (w' := w') hb.os hb.tape hb.output hb.size hb.block (fun k => w.heap.size <= k /\ k < w'.heap.size) (fun k hk => hk)
    refine ⟨_, RelG.putO hw o.dst (x := .dat y) (RepV.frame (fun k hk => ?_) (fun _ _ _ => rfl) hv.restrict) (fun k hk => by simp [AV.refs] at hk) hd⟩
    obtain ⟨hk, hlt⟩ := hk
    rcases hk with ⟨hfr, hk⟩ | hk
    · rcases hk with hk | ⟨h1, _⟩
      · exact .inl hk
      · cases h1
    · exact .inr ⟨hk, hlt⟩
  objs := fun p hp => by cases hp
  okk := fun σ' _ ok => qLq ok o.dst y
  near := fun _ _ k hk => by simp [AV.refs] at hk
def qLw (σ : St) : List Operand -> List DV -> Prop
 | [], [] => True
 | x :: xs, d :: ds => ((ev σ x = .dat d /\ d.agg = false /\ d.len = 1) \/ (∃ z, ev σ x = .sp z /\ d = .pd z)) /\ qLw σ xs ds
 | _, _ => False
theorem qLx {B : Nat -> Nat -> Prop} {F : Cx} {w0 w : World} {n : Nat} {a : Act} {g : Gh} (r : RelG B F w0 n σ a w g) : ∀ (cs : List Operand) (ds : List DV), qLw σ cs ds -> RepF w g.S ds (List.replicate ds.length 1) (cs.map a.eval)
 | [], [], _ => by simp [RepF]
 | x :: xs, d :: ds, h => by
  simp only [qLw] at h
  have ih := qLx r xs ds h.2
  have hev := ev_rep r x
  have hone : RepD w g.S d [a.eval x] := by
   rcases h.1 with ⟨e, hag, hln⟩ | ⟨z, e, rfl⟩
   ·rw [e] at hev
    have hev' : RepV w g.S d (a.eval x) := hev
    have hu := RepV.u hev' (fun xs hx => by subst hx; simp [DV.len] at hln)
    rcases hu with ⟨h1, _⟩ | ⟨_, h2⟩
    ·rw [hag] at h1; cases h1
    ·exact h2
   ·rw [e] at hev
    simp only [RepS, RepA] at hev
    simp only [RepD]
    obtain ⟨b, o, ds, e, h1, h2⟩ := hev
    exact ⟨b, o, ds, e, h1, h2⟩
  simp only [List.length_cons, List.replicate_succ, RepF, List.map_cons]
  exact ⟨1, _, [a.eval x], _, rfl, rfl, rfl, hone, ih⟩
 | [], _ :: _, h => h.elim
 | _ :: _, [], h => h.elim
theorem qHz {σ' : St} : ∀ (cs : List Operand) (ds : List DV), (∀ x ∈ cs, ev σ' x = ev σ x) -> qLw σ cs ds -> qLw σ' cs ds
 | [], [], _, _ => trivial
 | x :: xs, d :: ds, h1, h => by
  simp only [qLw] at h ⊢
  exact ⟨by rw [h1 x (by simp)]; exact h.1, qHz xs ds (fun z hz => h1 z (by simp [hz])) h.2⟩
 | [], _ :: _, _, h => h.elim
 | _ :: _, [], _, h => h.elim
theorem Step.mkfn {c : Bool} {o : Oper} {f : FuncId} {cs : List Operand} {ds : List DV} (ho : o.op = .makeFunc (.func f) #[] cs.toArray) (hv : qLw σ cs ds) : Step P N c σ o ⟨.dat (.fn f ds), []⟩ := by
 refine Step.value (fun σ' hA B F w0 n a w g rr => ?_) (fun _ _ _ k hk => by simp [AV.refs] at hk)
 have hv' := qHz cs ds (fun x hx => hA.1 x (by rw [ho]; simp [Op.operands, hx])) hv
 have hF := qLx rr cs ds hv'
 refine ⟨.func (.func f) #[] (cs.map a.eval).toArray, ?_, ?_⟩
 ·simp only [execOp, ho, Instr.makeFunc, Sem.run_bind, Sem.run_pure, Result.andThen_ok]
  simp
 ·simp only [RepS, RepV, RepD]
  exact ⟨_, rfl, hF⟩
end
section
variable {P : Program} {N : Value -> Prop} {T : Tab} {ops : Array Oper} {cf : Oper -> Bool} {K : q1f -> St -> Prop} {o : Oper} {rest : List Oper} {L : List (Nat × AV)} {O : List (Nat × Obj)}
theorem qT0 {i : Nat} {b : Bool} (h : look L i = .dat (.v (.bool b))) : mkSt L O = mkSt ((i, .dat (.v (.bool b))) :: L) O := by
 unfold mkSt
 congr 1
 funext j
 simp only [look]
 split
 ·rename_i hj
  have := Nat.eq_of_beq_eq_true hj
  subst this
  exact h
 ·rfl
theorem AOps.splitB {l : List Oper} (i : Nat) {b : Bool} (h : look L i = .dat (.v (.bool b))) (ht : b = true -> AOps P ops cf K l (mkSt ((i, .dat (.v (.bool true))) :: L) O)) (hf : b = false -> AOps P ops cf K l (mkSt ((i, .dat (.v (.bool false))) :: L) O)) :
    AOps P ops cf K l (mkSt L O) := by
  rw [qT0 h]
  cases b
  · exact hf rfl
  · exact ht rfl
theorem AOps.callv {d : Nat} {fo : Operand} {args : List Operand} {ats : Array TypeId} {fv : DV} {xs : List DV} {y : DV} (hc : FVal P fv xs y) (hd : o.dst = some d) (hg : gOn ops L o = true)
    (ho : o.op = .call { callee := .value fo, args := args.toArray, argTypes := ats }) (hfo : ev (mkSt L O) fo = .dat fv) (ha : q3t (mkSt L O) false args xs) (k : AOps P ops cf K rest (mkSt ((d, .dat y) :: L) O)) : AOps P ops cf K (o :: rest) (mkSt L O) :=
  AOps.v hd hg (Step.callv ho hfo hc ha) k
theorem AOps.mkfn {d : Nat} {f : FuncId} {cs : List Operand} {ds : List DV} (hd : o.dst = some d) (hg : gOn ops L o = true) (ho : o.op = .makeFunc (.func f) #[] cs.toArray) (hv : qLw (mkSt L O) cs ds)
    (k : AOps P ops cf K rest (mkSt ((d, .dat (.fn f ds)) :: L) O)) : AOps P ops cf K (o :: rest) (mkSt L O) :=
  AOps.v hd hg (Step.mkfn ho hv) k
end
def Br (c : Bool) (A B : Prop) : Prop := (c = true -> A) /\ (c = false -> B)
def Let {α : Type} (e : α) (k : α -> Prop) : Prop := ∀ x, x = e -> k x
def Call {α : Type} (R : α -> Prop) (k : α -> Prop) : Prop := ∃ x, R x /\ k x
def At {α : Type} (xs : List α) (i : Int) (k : α -> Prop) : Prop := 0 <= i /\ ∃ x, xs[i.toNat]? = some x /\ k x
def AtS (s : ByteArray) (i : Int) (k : Int -> Prop) : Prop := 0 <= i /\ ∃ b : UInt8, s[i.toNat]? = some b /\ k b.toNat
theorem Let.get {α : Type} {e : α} {k : α -> Prop} (h : Let e k) : ∃ x, e = x /\ k x := ⟨e, rfl, h e rfl⟩
theorem q1g {α : Type} {e : α -> DV} {xs : List α} {m : Nat} {x : α} (h : xs[m]? = some x) : (xs.map e)[m]? = some (e x) := by simp [h]
theorem qOg {α : Type} {e : α -> DV} {xs : List α} {i : Int} {x : α} (h0 : 0 <= i) (h : xs[i.toNat]? = some x) : i < ((xs.map e).length : Nat) := by
 have := (List.getElem?_eq_some_iff.1 h).1
 simp; omega
def qYw (b : (Prop) -> Prop) (k : Prop) : Prop := ∃ I : Prop, b I /\ (I -> k)
def q16 {α : Type} (b : (α -> Prop) -> Prop) (k : α -> Prop) : Prop := ∃ I : α -> Prop, b I /\ ∀ x0, I x0 -> k x0
def Loop1 {α : Type} (x0 : α) (b : α -> (α -> Prop) -> Prop) : Prop := ∃ (I : α -> Prop) (μ : α -> Nat), I x0 /\ ∀ y0, I y0 -> b y0 (fun z0 => I z0 /\ μ z0 < μ y0)
def q3r {α β : Type} (b : (α -> β -> Prop) -> Prop) (k : α -> β -> Prop) : Prop := ∃ I : α -> β -> Prop, b I /\ ∀ x0 x1, I x0 x1 -> k x0 x1
def Loop2 {α β : Type} (x0 : α) (x1 : β) (b : α -> β -> (α -> β -> Prop) -> Prop) : Prop := ∃ (I : α -> β -> Prop) (μ : α -> β -> Nat), I x0 x1 /\ ∀ y0 y1, I y0 y1 -> b y0 y1 (fun z0 z1 => I z0 z1 /\ μ z0 z1 < μ y0 y1)
def qWg {α β γ : Type} (b : (α -> β -> γ -> Prop) -> Prop) (k : α -> β -> γ -> Prop) : Prop := ∃ I : α -> β -> γ -> Prop, b I /\ ∀ x0 x1 x2, I x0 x1 x2 -> k x0 x1 x2
def qKr {α β γ : Type} (x0 : α) (x1 : β) (x2 : γ) (b : α -> β -> γ -> (α -> β -> γ -> Prop) -> Prop) : Prop := ∃ (I : α -> β -> γ -> Prop) (μ : α -> β -> γ -> Nat), I x0 x1 x2 /\ ∀ y0 y1 y2, I y0 y1 y2 -> b y0 y1 y2 (fun z0 z1 z2 => I z0 z1 z2 /\ μ z0 z1 z2 < μ y0 y1 y2)
end Go.Sim
/- What is proved: a slot read otherwise; a box that is shared from now on; results that hold no memory; equality of structs and arrays. -/
namespace Go.Sim
open Go.RowKit
theorem Sub.slot {L : List (Nat × AV)} {O : List (Nat × Obj)} (i : Nat) {x : AV} (hx : ∀ w g u, RepS w g (look L i) u -> RepS w g x u) (hr : ∀ k, x.refs k -> (look L i).refs k) : Sub (mkSt ((i, x) :: L) O) (mkSt L O) := by
 rintro B F w0 n a w ⟨g, r⟩
 refine ⟨g, { os := r.os, tape := r.tape, output := r.output, size := r.size, old := r.old, n := r.n, nlt := r.nlt, glob := r.glob, defers := r.defers, sF := r.sF, sB := r.sB, own := r.own, dj := r.dj, slots := fun j => ?_, objs := r.objs, ok := ⟨fun j k hk => ?_, r.ok.2⟩, hv := r.hv, sub := r.sub }⟩
 ·have hs := r.slots j
  simp only [mkSt, look] at hs ⊢
  split
  ·rename_i hj
   have := Nat.eq_of_beq_eq_true hj
   subst this
   exact hx _ _ _ hs
  ·exact hs
 ·simp only [mkSt, look] at hk
  split at hk
  ·rename_i hj
   have := Nat.eq_of_beq_eq_true hj
   subst this
   exact r.ok.1 j k (hr k hk)
  ·exact r.ok.1 j k hk
theorem AWp.unpd {P : Program} {B : Nat -> Nat -> Prop} {n : Nat} {c : Code} {Q : q1f -> St -> Prop} {L : List (Nat × AV)} {O : List (Nat × Obj)} (i : Nat) {x : DV} (hi : look L i = .dat (.pd x))
    (h : AWp P B n c (mkSt ((i, .sp x) :: L) O) Q) : AWp P B n c (mkSt L O) Q :=
  AWp.sub (Sub.slot i (fun w g u hu => by rw [hi] at hu; simpa only [RepS, RepV, RepD, RepA] using hu) (fun k hk => by simp [AV.refs] at hk)) h
theorem RelG.freezebox {B : Nat -> Nat -> Prop} {F : Cx} {w0 w : World} {n : Nat} {σ : St} {a : Act} {g : Gh} (h : RelG B F w0 n σ a w g) {id : Nat} (hid : id < 1000000) {T : TypeId} {sz : Nat} {x : DV} (hobj : σ.obj id = some (.box T sz (.dat x))) :
    RelG B F w0 n (σ.set id .gone) a w { g with S := fun k => g.S k \/ (g.has id /\ k = g.blk id), has := upd g.has id False } /\
      RepD w (fun k => g.S k \/ (g.has id /\ k = g.blk id)) (.pd x) [.pointer (some ⟨g.blk id, 0, none⟩)] := by
  have hS : ∀ k, g.S k -> g.S k \/ (g.has id /\ k = g.blk id) := fun _ hk => .inl hk
  constructor
  · refine { os := h.os, tape := h.tape, output := h.output, size := h.size, old := h.old, n := h.n, nlt := h.nlt, glob := h.glob, defers := h.defers, sF := ?_, sB := ?_, own := ?_, dj := ?_, slots := ?_, objs := ?_, ok := q50 h.ok (fun _ _ _ e => by cases e), hv := h.hv, sub := h.subFreeze id }
    · rintro k (hk | ⟨hk, rfl⟩)
      · exact h.sF k hk
      · exact .inr ((h.own id hk).2.1.new hid)
    · rintro k (hk | ⟨hk, rfl⟩)
      · exact h.sB k hk
      · exact (h.own id hk).2.2
    · intro i hi
      by_cases he : i = id
      · subst he; simp [q0b] at hi
      · simp only [q0j _ _ _ he] at hi
        obtain ⟨m1, m2, m3⟩ := h.own i hi
        exact ⟨fun hs => hs.elim m1 (fun ⟨k1, k2⟩ => h.dj i id he hi k1 k2), m2, m3⟩
    · intro i j hij hi hj
      by_cases he : i = id
      · subst he; simp [q0b] at hi
      · by_cases he' : j = id
        · subst he'; simp [q0b] at hj
        · simp only [q0j _ _ _ he, q0j _ _ _ he'] at hi hj; exact h.dj i j hij hi hj
    · exact h.slots' (g' := { g with S := fun k => g.S k \/ (g.has id /\ k = g.blk id), has := upd g.has id False }) hS (fun k _ _ => rfl) (fun _ _ => rfl) (fun _ _ => rfl)
    · intro i
      rw [St.obj_set]
      by_cases he : i = id
      · subst he; simp [RepO, q0b]
      · simp only [if_neg he]
        exact RepO.frame h (g' := { g with S := fun k => g.S k \/ (g.has id /\ k = g.blk id), has := upd g.has id False }) hS (fun k _ _ => rfl) (fun _ _ => rfl) (fun _ _ => rfl) i (by simp only [q0j _ _ _ he]) (fun _ => rfl) (fun _ _ hb => hb) (fun _ _ _ => rfl)
  · have ho := h.objs id
    rw [hobj] at ho
    simp only [RepO, RepA] at ho
    obtain ⟨h1, cur, h2, h3, h4⟩ := ho
    simp only [RepD]
    refine ⟨g.blk id, 0, cur.toList, rfl, RepD.frame hS (fun k _ _ => rfl) _ _ h4, .inr ⟨.inr ⟨h1, rfl⟩, fun j u hj => ?_⟩⟩
    rw [cell_of_row w _ _ cur T (0, 0) h2]
    simpa using hj
theorem AWp.freezebox {P : Program} {B : Nat -> Nat -> Prop} {n : Nat} {c : Code} {Q : q1f -> St -> Prop} {L : List (Nat × AV)} {O : List (Nat × Obj)} (i id : Nat) {T : TypeId} {sz : Nat} {x : DV} (hi : look L i = .pt id [] 0) (ho : q0v O id = some (.box T sz (.dat x)))
    (h : AWp P B n c (mkSt ((i, .sp x) :: L) ((id, .gone) :: O)) Q) (hid : id < 1000000 := by decide) : AWp P B n c (mkSt L O) Q := by
  rintro F w0 a w ⟨g, r⟩
  obtain ⟨r', hrep⟩ := r.freezebox hid ho
  refine h F w0 a w ⟨_, { os := r'.os, tape := r'.tape, output := r'.output, size := r'.size, old := r'.old, n := r'.n, nlt := r'.nlt, glob := r'.glob, defers := r'.defers, sF := r'.sF, sB := r'.sB, own := r'.own, dj := r'.dj, slots := fun j => ?_, objs := r'.objs, ok := ⟨fun j k hk => ?_, r'.ok.2⟩, hv := r'.hv, sub := r'.sub }⟩
  · have hs := r'.slots j
    simp only [mkSt, look] at hs ⊢
    split
    · rename_i hj
      have := Nat.eq_of_beq_eq_true hj
      subst this
      have hs' : RepS w _ (look L j) (a.tmps.getD j undef) := hs
      rw [hi] at hs'
      simp only [RepS] at hs' ⊢
      simp only [RepA]
      rw [hs']
      simpa only [RepD] using hrep
    · exact hs
  · simp only [mkSt, look] at hk
    split at hk
    · simp [AV.refs] at hk
    · exact r'.ok.1 j k hk
mutual
def bare : DV -> Bool
 | .v _ => true
 | .st _ xs => bareL xs
 | .ar _ xs => bareL xs
 | .tup xs => bareL xs
 | _ => false
def bareL : List DV -> Bool
 | [] => true
 | x :: xs => bare x && bareL xs
end
mutual
theorem RepD.bare {w w' : World} {S S' : Nat -> Prop} : ∀ (x : DV) (cs : List Value), Sim.bare x = true -> RepD w S x cs -> RepD w' S' x cs
 | .v x, cs, _, h => by simp only [RepD] at h ⊢; exact h
 | .st ns xs, cs, hb, h => RepF.bare xs ns cs (by simpa only [Sim.bare] using hb) h
 | .ar sz xs, cs, hb, h => RepF.bare xs _ cs (by simpa only [Sim.bare] using hb) h
 | .sl .., _, hb, _ => by simp [Sim.bare] at hb
 | .tup _, _, _, h => by simp only [RepD] at h
 | .pd _, _, hb, _ => by simp [Sim.bare] at hb
 | .fn .., _, hb, _ => by simp [Sim.bare] at hb
 | .any _, _, hb, _ => by simp [Sim.bare] at hb
 | .mp .., _, hb, _ => by simp [Sim.bare] at hb
theorem RepF.bare {w w' : World} {S S' : Nat -> Prop} : ∀ (xs : List DV) (ns : List Nat) (cs : List Value), bareL xs = true -> RepF w S xs ns cs -> RepF w' S' xs ns cs
 | [], ns, cs, _, h => by simp only [RepF] at h ⊢; exact h
 | x :: xs, ns, cs, hb, h => by
  simp only [bareL, Bool.and_eq_true] at hb
  simp only [RepF] at h ⊢
  obtain ⟨n, ns', c1, c2, e1, e2, e3, h1, h2⟩ := h
  exact ⟨n, ns', c1, c2, e1, e2, e3, RepD.bare x c1 hb.1 h1, RepF.bare xs ns' c2 hb.2 h2⟩
end
section
variable {P : Program} {N : Value -> Prop} {T : Tab} {ops : Array Oper} {cf : Oper -> Bool} {K : q1f -> St -> Prop} {o : Oper} {rest : List Oper} {L : List (Nat × AV)} {O : List (Nat × Obj)}
theorem AOps.eqs {d : Nat} {t t' : TypeId} {x y : Operand} {u v : DV} {b : Bool} (ho : o.op = .binOp .eql t x y t') (hd : o.dst = some d) (hg : gOn ops L o = true) (hx : ev (mkSt L O) x = .dat u) (hy : ev (mkSt L O) y = .dat v)
    (hu : u.agg = true) (hv : v.agg = true) (hgu : P.eqGuardType P.depth t = false) (h : EqOk P 10000 t u v b) (k : AOps P ops cf K rest (mkSt ((d, .dat (.v (.bool b))) :: L) O)) : AOps P ops cf K (o :: rest) (mkSt L O) :=
  AOps.eqst (op := .eql) (.inl rfl) ho hd hg hx hy hu hv hgu h (fun c e => by rw [if_neg (by decide)] at e; subst e; exact k)
theorem AOps.nes {d : Nat} {t t' : TypeId} {x y : Operand} {u v : DV} {b : Bool} (ho : o.op = .binOp .neq t x y t') (hd : o.dst = some d) (hg : gOn ops L o = true) (hx : ev (mkSt L O) x = .dat u) (hy : ev (mkSt L O) y = .dat v)
    (hu : u.agg = true) (hv : v.agg = true) (hgu : P.eqGuardType P.depth t = false) (h : EqOk P 10000 t u v b) (k : AOps P ops cf K rest (mkSt ((d, .dat (.v (.bool !b))) :: L) O)) : AOps P ops cf K (o :: rest) (mkSt L O) :=
  AOps.eqst (op := .neq) (.inr rfl) ho hd hg hx hy hu hv hgu h (fun c e => by rw [if_pos rfl] at e; subst e; exact k)
end
end Go.Sim
/- What is proved: the words in which a function's walk is told, and the rules that read them. -/
namespace Go.Sim
open Go.RowKit
abbrev eInt (k : IntKind) (n : Int) : DV := .v (.int k n)
abbrev eStr (s : ByteArray) : DV := .v (.string s)
def qBp (k : IntKind) (n : Int) : Prop := k.min <= n /\ n <= k.max
def Nz (n : Int) (k : Prop) : Prop := n ≠ 0 /\ k
def Nn (n : Int) (k : Prop) : Prop := 0 <= n /\ k
def Cat (a b : ByteArray) (k : ByteArray -> Prop) : Prop := a.size + b.size <= 9223372036854775807 /\ Let (a ++ b) k
def Sl {α : Type} (xs : List α) (lo hi : Int) (k : List α -> Prop) : Prop := 0 <= lo /\ lo <= hi /\ hi <= xs.length /\ Let ((xs.drop lo.toNat).take (hi.toNat - lo.toNat)) k
def Mk {α : Type} (b : Nat) (n : Int) (z : α) (k : List α -> Prop) : Prop := 0 <= n /\ (b : Int) * n <= 281474976710656 /\ n <= 9223372036854775807 /\ Let (List.replicate n.toNat z) k
def App {α : Type} (b : Nat) (xs ys : List α) (k : List α -> Prop) : Prop := xs.length + ys.length <= maxLen /\ (xs.length + ys.length) * b <= 140737488355328 /\ Let (xs ++ ys) k
theorem Let.as {α : Type} {e : α} {k : α -> Prop} (v : α) (he : e = v) (h : k v) : Let e k := fun _ hx => (hx.trans he) ▸ h
theorem Let.it {α : Type} {e : α} {k : α -> Prop} (h : k e) : Let e k := fun x hx => by subst hx; exact h
theorem Br.t {c : Bool} {A B : Prop} (hc : c = true) (h : A) : Br c A B := ⟨fun _ => h, fun hn => by (rw [hc] at hn; cases hn)⟩
theorem Br.f {c : Bool} {A B : Prop} (hc : c = false) (h : B) : Br c A B := ⟨fun hn => by (rw [hc] at hn; cases hn), fun _ => h⟩
theorem Br.dT {p : Prop} [Decidable p] {A B : Prop} (hc : p) (h : A) : Br (decide p) A B := Br.t (by simpa using hc) h
theorem Br.dF {p : Prop} [Decidable p] {A B : Prop} (hc : ¬ p) (h : B) : Br (decide p) A B := Br.f (by simpa using hc) h
theorem Br.d {p : Prop} [Decidable p] {A B : Prop} (ht : p -> A) (hf : ¬ p -> B) : Br (decide p) A B := ⟨fun h => ht (by simpa using h), fun h => hf (by simpa using h)⟩
theorem Br.eT {a b : Int} {A B : Prop} (hc : a = b) (h : A) : Br (a == b) A B := Br.t (by simpa using hc) h
theorem Br.eF {a b : Int} {A B : Prop} (hc : a ≠ b) (h : B) : Br (a == b) A B := Br.f (by simpa using hc) h
theorem Br.e {a b : Int} {A B : Prop} (ht : a = b -> A) (hf : a ≠ b -> B) : Br (a == b) A B := ⟨fun h => ht (by simpa using h), fun h => hf (by simpa using h)⟩
theorem Call.mk {α : Type} {R k : α -> Prop} {x : α} (h1 : R x) (h2 : k x) : Call R k := ⟨x, h1, h2⟩
theorem At.mk {α : Type} {xs : List α} {i : Int} {k : α -> Prop} (h0 : 0 <= i) (h1 : i < xs.length) (h : ∀ x, xs[i.toNat]? = some x -> k x) : At xs i k :=
 ⟨h0, xs[i.toNat]'(by omega), List.getElem?_eq_getElem _, h _ (List.getElem?_eq_getElem _)⟩
theorem Cat.get {a b : ByteArray} {k : ByteArray -> Prop} (h : Cat a b k) : a.size + b.size <= 9223372036854775807 /\ ∃ x, a ++ b = x /\ k x := ⟨h.1, h.2.get⟩
theorem Sl.get {α : Type} {xs : List α} {lo hi : Int} {k : List α -> Prop} (h : Sl xs lo hi k) : 0 <= lo /\ lo <= hi /\ hi <= xs.length /\ ∃ x, (xs.drop lo.toNat).take (hi.toNat - lo.toNat) = x /\ k x := ⟨h.1, h.2.1, h.2.2.1, h.2.2.2.get⟩
theorem Mk.get {α : Type} {b : Nat} {n : Int} {z : α} {k : List α -> Prop} (h : Mk b n z k) : 0 <= n /\ (b : Int) * n <= 281474976710656 /\ n <= 9223372036854775807 /\ ∃ x, List.replicate n.toNat z = x /\ k x := ⟨h.1, h.2.1, h.2.2.1, h.2.2.2.get⟩
theorem App.get {α : Type} {b : Nat} {xs ys : List α} {k : List α -> Prop} (h : App b xs ys k) : xs.length + ys.length <= maxLen /\ (xs.length + ys.length) * b <= 140737488355328 /\ ∃ x, xs ++ ys = x /\ k x := ⟨h.1, h.2.1, h.2.2.get⟩
theorem AtS.get {s : ByteArray} {i : Int} {k : Int -> Prop} (h : AtS s i k) : 0 <= i /\ ∃ x : Int, (∃ b, s[i.toNat]? = some b /\ (b.toNat : Int) = x) /\ k x := by
 obtain ⟨h0, b, hb, hk⟩ := h
 exact ⟨h0, _, ⟨b, hb, rfl⟩, hk⟩
theorem app1 {α : Type} {e : α -> DV} {xs ys : List α} (h : xs.length + ys.length <= maxLen) : (xs.map e).length + (ys.map e).length <= maxLen := by simpa using h
theorem app2 {α : Type} {e : α -> DV} {xs ys : List α} {b : Nat} (h : (xs.length + ys.length) * b <= 140737488355328) : ((xs.map e).length + (ys.map e).length) * b <= 140737488355328 := by simpa using h
theorem app3 {α : Type} {e : α -> DV} {xs ys zs : List α} (h : xs ++ ys = zs) : xs.map e ++ ys.map e = zs.map e := by simp [← h]
theorem qN9 {α : Type} {e : α -> DV} {xs : List α} {m : Nat} {x : α} (h : xs[m]? = some x) : m < (xs.map e).length := by
 have := (List.getElem?_eq_some_iff.1 h).1
 simpa using this
theorem qKs {α : Type} {e : α -> DV} {xs : List α} {m : Nat} {x : α} : (xs.map e).set m (e x) = (xs.set m x).map e := by rw [List.map_set]
theorem AWp.cutK {P : Program} {B : Nat -> Nat -> Prop} {n : Nat} {x y : Code} {σ : St} {Q : q1f -> St -> Prop} {ι : Type} (I : ι -> St) (Inv : ι -> Prop) (h1 : AWp P B n x σ (thenQ (fun σ' => ∃ i, Inv i /\ Sub (I i) σ') Q)) (h2 : ∀ i, Inv i -> AWp P B n y (I i) Q) :
    AWp P B n x σ (thenQ (fun σ' => AWp P B n y σ' Q) Q) :=
  AWp.mono h1 fun e σ' hq => by
    cases e with
    | normal => obtain ⟨i, hi, hs⟩ := hq; exact AWp.sub hs (h2 i hi)
    | exit k => exact hq
    | ret => exact hq
    | panic v => exact hq
def qOh (a b : Int) : Int := if b > a then b else a
theorem Step.mv {P : Program} {N : Value -> Prop} {σ : St} {c : Bool} {o : Oper} {x : Operand} {d : DV} (ho : o.op = .move x \/ o.op = .assign x) (hx : ev σ x = .dat d) : Step P N c σ o ⟨.dat d, []⟩ := by
 refine Step.value (fun σ' hA B F w0 n a w g rr => ?_) (fun _ _ _ k hk => by simp [AV.refs] at hk)
 have hev := ev_rep rr x
 rw [hA.1 x (by rcases ho with ho | ho <;> simp [ho, Op.operands]), hx] at hev
 exact ⟨a.eval x, by rcases ho with ho | ho <;> simp [execOp, ho], hev⟩
section
variable {P : Program} {N : Value -> Prop} {T : Tab} {ops : Array Oper} {cf : Oper -> Bool} {K : q1f -> St -> Prop} {o : Oper} {rest : List Oper} {L : List (Nat × AV)} {O : List (Nat × Obj)}
theorem AOps.mv {d : Nat} {x : Operand} {y : DV} (hd : o.dst = some d) (hg : gOn ops L o = true) (ho : o.op = .move x \/ o.op = .assign x) (hx : ev (mkSt L O) x = .dat y) (k : AOps P ops cf K rest (mkSt ((d, .dat y) :: L) O)) : AOps P ops cf K (o :: rest) (mkSt L O) :=
 AOps.v hd hg (Step.mv ho hx) k
theorem AOps.catE {d : Nat} {t t' : TypeId} {x y : Operand} {u v z : ByteArray} (ho : o.op = .binOp .add t x y t') (hd : o.dst = some d) (hg : gOn ops L o = true) (hx : ev (mkSt L O) x = .dat (.v (.string u))) (hy : ev (mkSt L O) y = .dat (.v (.string v)))
    (h : u.size + v.size <= 9223372036854775807) (e : u ++ v = z) (k : AOps P ops cf K rest (mkSt ((d, .dat (.v (.string z))) :: L) O)) : AOps P ops cf K (o :: rest) (mkSt L O) := by
  subst e
  exact AOps.cat ho hd hg hx hy h k
def qWh (σ : St) : Option Operand -> Int -> Prop
 | none, l => l = 0
 | some x, l => ∃ k, ev σ x = .dat (.v (.int k l))
def qWi (σ : St) (n : Nat) : Option Operand -> Int -> Prop
 | none, h => h = n
 | some x, h => ∃ k, ev σ x = .dat (.v (.int k h))
theorem AOps.cutE (hT : q0r P T) {α : Type} {e : α -> DV} {d : Nat} {t E E' : TypeId} {te : TE} {x : Operand} {lo hi : Option Operand} {l h : Int} {sz : Nat} {xs : List α} (ho : o.op = .slice t x lo hi none) (hd : o.dst = some d) (hg : gOn ops L o = true) (hs : slE T t = some (E, te))
    (hx : ev (mkSt L O) x = .dat (.sl E' sz (xs.map e))) (hsz : Nat.beq sz te.size = true) (hlo : qWh (mkSt L O) lo l) (hhi : qWi (mkSt L O) xs.length hi h) (h1 : 0 <= l) (h2 : l <= h) (h3 : h <= xs.length) {zs : List α} (ez : (xs.drop l.toNat).take (h.toNat - l.toNat) = zs)
    (k : AOps P ops cf K rest (mkSt ((d, .dat (.sl E' sz (zs.map e))) :: L) O)) : AOps P ops cf K (o :: rest) (mkSt L O) := by
  subst ez
  refine AOps.cut hT (l := l.toNat) (h := h.toNat) ho hd hg hs hx hsz ?_ ?_ (by omega) (by simp; omega) (by rw [← List.map_drop, ← List.map_take]) k
  · cases lo with
    | none => simp only [qWh] at hlo; subst hlo; rfl
    | some z => obtain ⟨κ, hκ⟩ := hlo; exact ⟨κ, by rw [hκ]; congr 3; omega⟩
  · cases hi with
    | none => simp only [qWi] at hhi; subst hhi; simp [hiOk]
    | some z => obtain ⟨κ, hκ⟩ := hhi; exact ⟨κ, by rw [hκ]; congr 3; omega⟩
theorem AOps.makeownE (hT : q0r P T) {α : Type} {e : α -> DV} {z : α} {d : Nat} {t : TypeId} {x y : Operand} {E : TypeId} {te : TE} {κ κ' : IntKind} {m : Int} (ho : o.op = .makeSlice t x y) (hd : o.dst = some d) (hg : gOn ops L o = true) (hn : q0v O d = none)
    (hs : slE T t = some (E, te)) (hx : ev (mkSt L O) x = .dat (.v (.int κ m))) (hy : ev (mkSt L O) y = .dat (.v (.int κ' m))) (h0 : 0 <= m) (hb : (te.bytes : Int) * m <= 281474976710656) (h63 : m <= 9223372036854775807) (hz : e z = te.zero) {zs : List α} (ez : List.replicate m.toNat z = zs)
    (k : AOps P ops cf K rest (mkSt ((d, .oref d) :: L) ((d, .row E te.size (zs.map e)) :: O))) : AOps P ops cf K (o :: rest) (mkSt L O) :=
  AOps.makeown hT ho hd hg hn hs hx hy h0 hb h63 (by rw [← ez, List.map_replicate, hz]) k
end
end Go.Sim
