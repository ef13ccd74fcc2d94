/- What is proved: a slot read otherwise; a box that is shared from now on; results that hold no memory; equality of structs and arrays. -/
import Derived.Test.YtnhflokfcnfegaaSim26
import Derived.ChangeKeysEq
namespace Go.Sim
open Go.RowKit

/-- A slot is read otherwise. -/
theorem Sub.slot {L : List (Nat × AV)} {O : List (Nat × Obj)} (i : Nat) {x : AV} (hx : ∀ w g u, RepS w g (look L i) u → RepS w g x u) (hr : ∀ k, x.refs k → (look L i).refs k) : Sub (mkSt ((i, x) :: L) O) (mkSt L O) := by
  rintro B F w0 n a w ⟨g, r⟩
  refine ⟨g, { os := r.os, tape := r.tape, output := r.output, size := r.size, old := r.old, n := r.n, defers := r.defers, sF := r.sF, sB := r.sB, own := r.own, dj := r.dj, slots := fun j => ?_, objs := r.objs, ok := ⟨fun j k hk => ?_, r.ok.2⟩, hv := r.hv }⟩
  · have hs := r.slots j
    simp only [mkSt, look] at hs ⊢
    split
    · rename_i hj
      have := Nat.eq_of_beq_eq_true hj
      subst this
      exact hx _ _ _ hs
    · exact hs
  · simp only [mkSt, look] at hk
    split at hk
    · rename_i hj
      have := Nat.eq_of_beq_eq_true hj
      subst this
      exact r.ok.1 j k (hr k hk)
    · exact r.ok.1 j k hk

theorem AWp.unpd {P : Program} {B : Nat → Prop} {n : Nat} {c : Code} {Q : AExit → St → Prop} {L : List (Nat × AV)} {O : List (Nat × Obj)} (i : Nat) {x : DV} (hi : look L i = .dat (.pd x))
    (h : AWp P B n c (mkSt ((i, .sp x) :: L) O) Q) : AWp P B n c (mkSt L O) Q :=
  AWp.sub (Sub.slot i (fun w g u hu => by rw [hi] at hu; simpa only [RepS, RepV, RepD, RepA] using hu) (fun k hk => by simp [AV.refs] at hk)) h

/-- A box is shared from now on. -/
theorem RelG.freezebox {B F : Nat → Prop} {w0 w : World} {n : Nat} {σ : St} {a : Act} {g : Gh} (h : RelG B F w0 n σ a w g) (hB : ∀ k, ¬ B k) {id : Nat} {T : TypeId} {sz : Nat} {x : DV} (hobj : σ.obj id = some (.box T sz (.dat x))) :
    RelG B F w0 n (σ.set id .gone) a w { g with S := fun k => g.S k ∨ (g.has id ∧ k = g.blk id), has := upd g.has id False } ∧
      RepD w (fun k => g.S k ∨ (g.has id ∧ k = g.blk id)) (.pd x) [.pointer (some ⟨g.blk id, 0, none⟩)] := by
  have hS : ∀ k, g.S k → g.S k ∨ (g.has id ∧ k = g.blk id) := fun _ hk => .inl hk
  constructor
  · refine { os := h.os, tape := h.tape, output := h.output, size := h.size, old := h.old, n := h.n, defers := h.defers, sF := ?_, sB := ?_, own := ?_, dj := ?_, slots := ?_, objs := ?_, ok := Ok_set h.ok (fun _ _ _ e => by cases e), hv := h.hv }
    · rintro k (hk | ⟨hk, rfl⟩)
      · exact h.sF k hk
      · exact .inr ((h.own id hk).2.1.resolve_right (hB _))
    · rintro k (hk | ⟨hk, rfl⟩)
      · exact h.sB k hk
      · exact (h.own id hk).2.2
    · intro i hi
      by_cases he : i = id
      · subst he; simp [upd_same] at hi
      · simp only [upd_ne _ _ _ he] at hi
        obtain ⟨m1, m2, m3⟩ := h.own i hi
        exact ⟨fun hs => hs.elim m1 (fun ⟨k1, k2⟩ => h.dj i id he hi k1 k2), m2, m3⟩
    · intro i j hij hi hj
      by_cases he : i = id
      · subst he; simp [upd_same] at hi
      · by_cases he' : j = id
        · subst he'; simp [upd_same] at hj
        · simp only [upd_ne _ _ _ he, upd_ne _ _ _ he'] at hi hj; exact h.dj i j hij hi hj
    · exact h.slots' (g' := { g with S := fun k => g.S k ∨ (g.has id ∧ k = g.blk id), has := upd g.has id False }) hS (fun k _ _ => rfl) (fun _ _ => rfl) (fun _ _ => rfl)
    · intro i
      rw [St.obj_set]
      by_cases he : i = id
      · subst he; simp [RepO, upd_same]
      · simp only [if_neg he]
        exact RepO.frame h (g' := { g with S := fun k => g.S k ∨ (g.has id ∧ k = g.blk id), has := upd g.has id False }) hS (fun k _ _ => rfl) (fun _ _ => rfl) (fun _ _ => rfl) i (by simp only [upd_ne _ _ _ he]) (fun _ => rfl)
  · have ho := h.objs id
    rw [hobj] at ho
    simp only [RepO, RepA] at ho
    obtain ⟨h1, cur, h2, h3, h4⟩ := ho
    simp only [RepD]
    refine ⟨g.blk id, 0, cur.toList, rfl, RepD.frame hS (fun k _ _ => rfl) _ _ h4, .inr ⟨.inr ⟨h1, rfl⟩, fun j u hj => ?_⟩⟩
    rw [cell_of_row w _ _ cur T (0, 0) h2]
    simpa using hj

theorem AWp.freezebox {P : Program} {n : Nat} {c : Code} {Q : AExit → St → Prop} {L : List (Nat × AV)} {O : List (Nat × Obj)} (i id : Nat) {T : TypeId} {sz : Nat} {x : DV} (hi : look L i = .pt id [] 0) (ho : lookO O id = some (.box T sz (.dat x)))
    (h : AWp P NoB n c (mkSt ((i, .sp x) :: L) ((id, .gone) :: O)) Q) : AWp P NoB n c (mkSt L O) Q := by
  rintro F w0 a w ⟨g, r⟩
  obtain ⟨r', hrep⟩ := r.freezebox (fun k hk => hk) ho
  refine h F w0 a w ⟨_, { os := r'.os, tape := r'.tape, output := r'.output, size := r'.size, old := r'.old, n := r'.n, defers := r'.defers, sF := r'.sF, sB := r'.sB, own := r'.own, dj := r'.dj, slots := fun j => ?_, objs := r'.objs, ok := ⟨fun j k hk => ?_, r'.ok.2⟩, hv := r'.hv }⟩
  · have hs := r'.slots j
    simp only [mkSt, look] at hs ⊢
    split
    · rename_i hj
      have := Nat.eq_of_beq_eq_true hj
      subst this
      have hs' : RepS w _ (look L j) (a.tmps.getD j undef) := hs
      rw [hi] at hs'
      simp only [RepS] at hs' ⊢
      simp only [RepA]
      rw [hs']
      simpa only [RepD] using hrep
    · exact hs
  · simp only [mkSt, look] at hk
    split at hk
    · simp [AV.refs] at hk
    · exact r'.ok.1 j k hk

/-! ### Results that hold no memory -/

mutual
def bare : DV → Bool
  | .v _ => true
  | .st _ xs => bareL xs
  | .ar _ xs => bareL xs
  | .tup xs => bareL xs
  | _ => false
def bareL : List DV → Bool
  | [] => true
  | x :: xs => bare x && bareL xs
end

mutual
theorem RepD.bare {w w' : World} {S S' : Nat → Prop} : ∀ (x : DV) (cs : List Value), Sim.bare x = true → RepD w S x cs → RepD w' S' x cs
  | .v x, cs, _, h => by simp only [RepD] at h ⊢; exact h
  | .st ns xs, cs, hb, h => RepF.bare xs ns cs (by simpa only [Sim.bare] using hb) h
  | .ar sz xs, cs, hb, h => RepF.bare xs _ cs (by simpa only [Sim.bare] using hb) h
  | .sl .., _, hb, _ => by simp [Sim.bare] at hb
  | .tup _, _, _, h => by simp only [RepD] at h
  | .pd _, _, hb, _ => by simp [Sim.bare] at hb
  | .fn .., _, hb, _ => by simp [Sim.bare] at hb
theorem RepF.bare {w w' : World} {S S' : Nat → Prop} : ∀ (xs : List DV) (ns : List Nat) (cs : List Value), bareL xs = true → RepF w S xs ns cs → RepF w' S' xs ns cs
  | [], ns, cs, _, h => by simp only [RepF] at h ⊢; exact h
  | x :: xs, ns, cs, hb, h => by
    simp only [bareL, Bool.and_eq_true] at hb
    simp only [RepF] at h ⊢
    obtain ⟨n, ns', c1, c2, e1, e2, e3, h1, h2⟩ := h
    exact ⟨n, ns', c1, c2, e1, e2, e3, RepD.bare x c1 hb.1 h1, RepF.bare xs ns' c2 hb.2 h2⟩
end

theorem RepV.bare {w w' : World} {S S' : Nat → Prop} {x : DV} {u : Value} (hb : Sim.bare x = true) (h : RepV w S x u) : RepV w' S' x u := by
  cases x with
  | v x => exact RepD.bare (w := w) (w' := w') (S := S) (S' := S') (.v x) [u] hb h
  | st ns xs => obtain ⟨cs, e, hd⟩ := h; exact ⟨cs, e, RepD.bare _ _ hb hd⟩
  | ar ns xs => obtain ⟨cs, e, hd⟩ := h; exact ⟨cs, e, RepD.bare _ _ hb hd⟩
  | sl E sz xs => simp [Sim.bare] at hb
  | tup xs =>
    simp only [Sim.bare] at hb
    obtain ⟨us, e, hf⟩ := h
    refine ⟨us, e, ?_⟩
    clear e
    induction hf with
    | nil => exact .nil
    | cons a _ ih =>
      simp only [bareL, Bool.and_eq_true] at hb
      refine .cons ?_ (ih hb.2)
      rcases a with ⟨a1, cs, e, a2⟩ | ⟨a1, a2⟩
      · exact .inl ⟨a1, cs, e, RepD.bare _ _ hb.1 a2⟩
      · exact .inr ⟨a1, RepD.bare _ _ hb.1 a2⟩
  | pd x => simp [Sim.bare] at hb
  | fn f xs => simp [Sim.bare] at hb

/-- A result without memory shares none. -/
theorem AFn.fresh {P : Program} {f : FuncId} {xs : List DV} {y : DV} (hb : bare y = true) (h : AFn P f xs y false) : AFn P f xs y true :=
  ⟨h.1, fun F w vs hvs => (h.2 F w vs hvs).mono fun _ _ ⟨v, h1, h2, h3⟩ => ⟨v, h1, h2, RepV.bare hb h3⟩⟩

/-! ### Equality -/

/-- Two rows, place by place. -/
def allEq {α : Type} (beq : α → α → Bool) : List α → List α → Bool
  | [], [] => true
  | x :: xs, y :: ys => beq x y && allEq beq xs ys
  | _, _ => false

theorem allEq_iff {α : Type} {beq : α → α → Bool} (h : ∀ x y, beq x y = true ↔ x = y) : ∀ xs ys : List α, allEq beq xs ys = true ↔ xs = ys
  | [], [] => by simp [allEq]
  | x :: xs, y :: ys => by simp [allEq, h, allEq_iff h xs ys]
  | [], _ :: _ => by simp [allEq]
  | _ :: _, [] => by simp [allEq]

theorem eqItems_run {P : Program} {T : Tab} (hT : TabOk P T) {α : Type} {enc : α → DV} {beq : α → α → Bool} {d : Nat} {e : TypeId} {te : TE} (he : tget T e = some te) (h : ∀ x y, EqOk P d e (enc x) (enc y) (beq x y)) (hm : ∀ x, aggMatch te (.dat (enc x)) = true) {w : World} {S : Nat → Prop} :
    ∀ (xs ys : List α) (k : Nat) (p q c1 c2 : List Value), xs.length = ys.length → p.length = k * te.size → q.length = k * te.size → RepF w S (xs.map enc) (List.replicate xs.length te.size) c1 → RepF w S (ys.map enc) (List.replicate ys.length te.size) c2 →
      (Op.eqItems d e te.size (p ++ c1).toArray (q ++ c2).toArray (List.range' k xs.length)).run P w = .ok (allEq beq xs ys) w
  | [], [], _, _, _, _, _, _, _, _, _, _ => by simp [Op.eqItems, allEq]
  | x :: xs, y :: ys, k, p, q, c1, c2, hl, hp, hq, hx, hy => by
    simp only [List.map_cons, List.length_cons, List.replicate_succ, RepF] at hx hy
    obtain ⟨n, ns', d1, d2, e1, rfl, l1, hx1, hx2⟩ := hx
    obtain ⟨n', ns'', f1, f2, e2, rfl, l2, hy1, hy2⟩ := hy
    simp only [List.cons.injEq] at e1 e2
    obtain ⟨rfl, rfl⟩ := e1
    obtain ⟨rfl, rfl⟩ := e2
    let g : Gh := { S := S, blk := fun _ => 0, hdr := fun _ => .bool true, has := fun _ => False }
    obtain ⟨r1, hr1, rep1⟩ := run_part (w := w) (g := g) (hT _ _ he) (y := .dat (enc x)) (c1 := p) (c2 := d1) (c3 := d2) hx1 (hm x)
    obtain ⟨r2, hr2, rep2⟩ := run_part (w := w) (g := g) (hT _ _ he) (y := .dat (enc y)) (c1 := q) (c2 := f1) (c3 := f2) hy1 (hm y)
    rw [hp, List.append_assoc] at hr1
    rw [hq, List.append_assoc] at hr2
    have ih := eqItems_run hT he h hm xs ys (k + 1) (p ++ d1) (q ++ f1) d2 f2 (by simpa using hl) (by simp [hp, l1, Nat.succ_mul]) (by simp [hq, l2, Nat.succ_mul]) hx2 hy2
    rw [List.append_assoc, List.append_assoc] at ih
    simp only [List.length_cons, List.range'_succ, Op.eqItems, Sem.run_bind, hr1, hr2, Result.andThen_ok, h x y w S r1 r2 rep1 rep2, allEq]
    cases beq x y
    · simp
    · simp [ih]
  | [], _ :: _, _, _, _, _, _, hl, _, _, _, _ => by simp at hl
  | _ :: _, [], _, _, _, _, _, hl, _, _, _, _ => by simp at hl

/-- Arrays, place by place. -/
theorem EqOk.arr {P : Program} {T : Tab} (hT : TabOk P T) {α : Type} {enc : α → DV} {beq : α → α → Bool} {d n : Nat} {t e : TypeId} {te : TE} (hu : P.underlying t = some (.array n e)) (he : tget T e = some te) (hs : P.cellsOf e = te.size) (h : ∀ x y, EqOk P d e (enc x) (enc y) (beq x y))
    (hm : ∀ x, aggMatch te (.dat (enc x)) = true) (xs ys : Vector α n) : EqOk P (d + 1) t (.ar te.size (xs.toList.map enc)) (.ar te.size (ys.toList.map enc)) (allEq beq xs.toList ys.toList) := by
  intro w S u v hu' hv'
  obtain ⟨cs, rfl, hx⟩ := hu'
  obtain ⟨ds, rfl, hy⟩ := hv'
  obtain ⟨i, _, _, hi, _⟩ := hT _ _ he
  rw [run_equalIn_array w d _ _ hu hi, hs]
  simp only [RepD] at hx hy
  have := eqItems_run hT he h hm (w := w) (S := S) xs.toList ys.toList 0 [] [] cs ds (by simp) (by simp) (by simp) (by simpa using hx) (by simpa using hy)
  simpa [List.range_eq_range'] using this

section
variable {P : Program} {T : Tab} {ops : Array Oper} {cf : Oper → Bool} {K : St → Prop} {o : Oper} {rest : List Oper} {L : List (Nat × AV)} {O : List (Nat × Obj)}

theorem AOps.eqs {d : Nat} {t t' : TypeId} {x y : Operand} {u v : DV} {b : Bool} (ho : o.op = .binOp .eql t x y t') (hd : o.dst = some d) (hg : gOn ops L o = true) (hx : ev (mkSt L O) x = .dat u) (hy : ev (mkSt L O) y = .dat v)
    (hu : u.agg = true) (hv : v.agg = true) (hgu : P.eqGuardType P.depth t = false) (h : EqOk P 10000 t u v b) (k : AOps P ops cf K rest (mkSt ((d, .dat (.v (.bool b))) :: L) O)) : AOps P ops cf K (o :: rest) (mkSt L O) :=
  AOps.eqst (op := .eql) (.inl rfl) ho hd hg hx hy hu hv hgu h (fun c e => by rw [if_neg (by decide)] at e; subst e; exact k)

theorem AOps.nes {d : Nat} {t t' : TypeId} {x y : Operand} {u v : DV} {b : Bool} (ho : o.op = .binOp .neq t x y t') (hd : o.dst = some d) (hg : gOn ops L o = true) (hx : ev (mkSt L O) x = .dat u) (hy : ev (mkSt L O) y = .dat v)
    (hu : u.agg = true) (hv : v.agg = true) (hgu : P.eqGuardType P.depth t = false) (h : EqOk P 10000 t u v b) (k : AOps P ops cf K rest (mkSt ((d, .dat (.v (.bool !b))) :: L) O)) : AOps P ops cf K (o :: rest) (mkSt L O) :=
  AOps.eqst (op := .neq) (.inr rfl) ho hd hg hx hy hu hv hgu h (fun c e => by rw [if_pos rfl] at e; subst e; exact k)

end

end Go.Sim
