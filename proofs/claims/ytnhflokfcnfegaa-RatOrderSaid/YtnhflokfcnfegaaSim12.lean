/- What is proved: states written as lists, what is known less of one, and contracts of functions over closed data. -/
import Derived.Test.YtnhflokfcnfegaaSim11
namespace Go.Sim
open Go.RowKit

def look : List (Nat × AV) → Nat → AV
  | [], _ => .dead
  | p :: l, i => if Nat.beq i p.1 then p.2 else look l i
def lookO : List (Nat × Obj) → Nat → Option Obj
  | [], _ => none
  | p :: l, i => if Nat.beq i p.1 then some p.2 else lookO l i
def mkSt (L : List (Nat × AV)) (O : List (Nat × Obj)) : St := ⟨look L, lookO O⟩

mutual
def renA (f : Nat → Nat) : AV → AV
  | .dat x => .dat x
  | .st ns xs => .st ns (renL f xs)
  | .oref id => .oref (f id)
  | .pt id p off => .pt (f id) p off
  | .sp x => .sp x
  | .dead => .dead
def renL (f : Nat → Nat) : List AV → List AV
  | [] => []
  | x :: xs => renA f x :: renL f xs
end

def renO (f : Nat → Nat) : Obj → Obj
  | .box T sz x => .box T sz (renA f x)
  | .row E sz xs => .row E sz xs
  | .gone => .gone

def Gh.ren (g : Gh) (f : Nat → Nat) (h : Nat → Prop) : Gh := { S := g.S, blk := fun i => g.blk (f i), hdr := fun i => g.hdr (f i), has := fun i => h i ∧ g.has (f i) }

mutual
theorem RepA.ren {w : World} {g : Gh} {f : Nat → Nat} {h : Nat → Prop} : ∀ (x : AV) (cs : List Value), RepA w g (renA f x) cs → RepA w (g.ren f h) x cs
  | .dat x, cs, hr => hr
  | .st ns xs, cs, hr => by simp only [renA, RepA] at hr ⊢; exact RepAF.ren xs ns cs hr
  | .oref id, cs, hr => hr
  | .pt id p off, cs, hr => hr
  | .sp x, cs, hr => hr
  | .dead, cs, hr => hr
theorem RepAF.ren {w : World} {g : Gh} {f : Nat → Nat} {h : Nat → Prop} : ∀ (xs : List AV) (ns : List Nat) (cs : List Value), RepAF w g (renL f xs) ns cs → RepAF w (g.ren f h) xs ns cs
  | [], ns, cs, hr => by simpa only [renL, RepAF] using hr
  | x :: xs, ns, cs, hr => by
    simp only [renL, RepAF] at hr ⊢
    obtain ⟨n, ns', c1, c2, e1, e2, e3, h1, h2⟩ := hr
    exact ⟨n, ns', c1, c2, e1, e2, e3, RepA.ren x c1 h1, RepAF.ren xs ns' c2 h2⟩
end

theorem RepS.ren {w : World} {g : Gh} {f : Nat → Nat} {h : Nat → Prop} {x : AV} {u : Value} (hr : RepS w g (renA f x) u) : RepS w (g.ren f h) x u := by
  cases x with
  | st ns xs => obtain ⟨cs, e, hd⟩ := hr; exact ⟨cs, e, RepA.ren (.st ns xs) cs hd⟩
  | _ => exact hr

mutual
/-- Are all objects that are named in the list? -/
def refsB (ks : List Nat) : AV → Bool
  | .dat _ => true
  | .st _ xs => refsBL ks xs
  | .oref id => ks.contains id
  | .pt id _ _ => ks.contains id
  | .sp _ => true
  | .dead => true
def refsBL (ks : List Nat) : List AV → Bool
  | [] => true
  | x :: xs => refsB ks x && refsBL ks xs
end

mutual
theorem refsB_spec {ks : List Nat} : ∀ (x : AV) (k : Nat), refsB ks x = true → x.refs k → k ∈ ks
  | .dat _, _, _, h => by simp [AV.refs] at h
  | .st _ xs, k, hb, h => by simp only [AV.refs, refsB] at h hb; exact refsBL_spec xs k hb h
  | .oref id, k, hb, h => by simp only [AV.refs, refsB] at h hb; subst h; simpa using hb
  | .pt id _ _, k, hb, h => by simp only [AV.refs, refsB] at h hb; subst h; simpa using hb
  | .sp _, _, _, h => by simp [AV.refs] at h
  | .dead, _, _, h => by simp [AV.refs] at h
theorem refsBL_spec {ks : List Nat} : ∀ (xs : List AV) (k : Nat), refsBL ks xs = true → AV.refs.refsL xs k → k ∈ ks
  | [], _, _, h => by simp [AV.refs.refsL] at h
  | x :: xs, k, hb, h => by
    simp only [refsBL, Bool.and_eq_true, AV.refs.refsL] at h hb
    rcases h with h | h
    · exact refsB_spec x k hb.1 h
    · exact refsBL_spec xs k hb.2 h
end

def slotsOk (f : Nat → Nat) (σ : St) : List (Nat × AV) → Prop
  | [] => True
  | p :: l => σ.slot p.1 = renA f p.2 ∧ slotsOk f σ l
def objsOk (f : Nat → Nat) (σ : St) : List (Nat × Obj) → Prop
  | [] => True
  | p :: l => σ.obj (f p.1) = some (renO f p.2) ∧ objsOk f σ l
def closedB (ks : List Nat) (L : List (Nat × AV)) (O : List (Nat × Obj)) : Bool :=
  L.all (fun p => refsB ks p.2) && O.all (fun p => match p.2 with | .box _ _ x => refsB ks x | _ => true)
def distinct (f : Nat → Nat) : List Nat → Bool
  | [] => true
  | k :: ks => ks.all (fun j => !Nat.beq (f k) (f j)) && distinct f ks

theorem look_spec {f : Nat → Nat} {σ : St} : ∀ {L : List (Nat × AV)}, slotsOk f σ L → ∀ i, look L i = .dead ∨ σ.slot i = renA f (look L i)
  | [], _, _ => .inl rfl
  | p :: l, h, i => by
    simp only [look]
    split
    · rename_i hi
      have := Nat.eq_of_beq_eq_true hi
      subst this
      exact .inr h.1
    · exact look_spec h.2 i

theorem look_mem : ∀ {L : List (Nat × AV)} {i : Nat}, look L i = .dead ∨ ∃ p ∈ L, p.2 = look L i
  | [], _ => .inl rfl
  | p :: l, i => by
    simp only [look]
    split
    · exact .inr ⟨p, by simp, rfl⟩
    · rcases @look_mem l i with h | ⟨q, hq, e⟩
      · exact .inl h
      · exact .inr ⟨q, by simp [hq], e⟩

theorem lookO_mem : ∀ {O : List (Nat × Obj)} {i : Nat} {o : Obj}, lookO O i = some o → (i, o) ∈ O
  | [], _, _, h => by simp [lookO] at h
  | p :: l, i, o, h => by
    simp only [lookO] at h
    split at h
    · rename_i hi
      have := Nat.eq_of_beq_eq_true hi
      subst this
      simp only [Option.some.injEq] at h
      subst h
      simp
    · exact List.mem_cons_of_mem _ (lookO_mem h)

theorem lookO_some : ∀ {O : List (Nat × Obj)} {k : Nat}, k ∈ O.map (·.1) → lookO O k ≠ none
  | [], _, h => by simp at h
  | p :: l, k, h => by
    simp only [lookO]
    split
    · simp
    · rename_i hi
      simp only [List.map_cons, List.mem_cons] at h
      rcases h with rfl | h
      · exact absurd (Nat.beq_refl _) hi
      · exact lookO_some h

theorem lookO_spec {f : Nat → Nat} {σ : St} {O : List (Nat × Obj)} (h : objsOk f σ O) {i : Nat} {o : Obj} (hi : lookO O i = some o) : σ.obj (f i) = some (renO f o) := by
  have := lookO_mem hi
  clear hi
  induction O with
  | nil => cases this
  | cons p l ih =>
    rcases List.mem_cons.1 this with e | e
    · subst e; exact h.1
    · exact ih h.2 e

theorem distinct_spec {f : Nat → Nat} : ∀ {ks : List Nat}, distinct f ks = true → ∀ i j, i ∈ ks → j ∈ ks → i ≠ j → f i ≠ f j
  | [], _, _, _, h, _, _ => by cases h
  | k :: ks, h, i, j, hi, hj, hne => by
    simp only [distinct, Bool.and_eq_true, List.all_eq_true, Bool.not_eq_true'] at h
    obtain ⟨h1, h2⟩ := h
    have key : ∀ m, m ∈ ks → f k ≠ f m := fun m hm e => by
      have := h1 m hm
      rw [e, Nat.beq_refl] at this
      cases this
    rcases List.mem_cons.1 hi with e1 | hi
    · rcases List.mem_cons.1 hj with e2 | hj
      · exact absurd (e1.trans e2.symm) hne
      · rw [e1]; exact key j hj
    · rcases List.mem_cons.1 hj with e2 | hj
      · rw [e2]; exact fun e => key i hi e.symm
      · exact distinct_spec h2 i j hi hj hne

/-- What is known less: the slots and objects of a list, these by other numbers. -/
theorem Sub.list {σ : St} (f : Nat → Nat) {L : List (Nat × AV)} {O : List (Nat × Obj)} (hd : distinct f (O.map (·.1)) = true) (hc : closedB (O.map (·.1)) L O = true)
    (hL : slotsOk f σ L) (hO : objsOk f σ O) : Sub (mkSt L O) σ := by
  rintro B F w0 n a w ⟨g, r⟩
  have hin : ∀ i, lookO O i ≠ none → i ∈ O.map (·.1) := fun i hi => by
    cases h : lookO O i with
    | none => exact absurd h hi
    | some o => exact List.mem_map.2 ⟨_, lookO_mem h, rfl⟩
  simp only [closedB, Bool.and_eq_true, List.all_eq_true] at hc
  refine ⟨g.ren f (fun i => lookO O i ≠ none), { os := r.os, tape := r.tape, output := r.output, size := r.size, old := r.old, n := r.n, defers := r.defers, sF := r.sF, sB := r.sB, own := fun i hi => r.own (f i) hi.2, dj := ?_, slots := ?_, objs := ?_, ok := ?_, hv := fun i => r.hv (f i) }⟩
  · intro i j hij hi hj
    exact r.dj (f i) (f j) (distinct_spec hd i j (hin i hi.1) (hin j hj.1) hij) hi.2 hj.2
  · intro i
    rcases look_spec hL i with h | h
    · simp only [mkSt, h]; trivial
    · have := r.slots i
      rw [h] at this
      exact RepS.ren this
  · intro i
    simp only [mkSt]
    cases h : lookO O i with
    | none => simp only [RepO, Gh.ren]; exact fun hh => hh.1 h
    | some o =>
      have ho := r.objs (f i)
      rw [lookO_spec hO h] at ho
      cases o with
      | gone => simp only [renO, RepO, Gh.ren] at ho ⊢; exact fun hh => ho hh.2
      | box T sz x =>
        simp only [renO, RepO] at ho ⊢
        obtain ⟨h1, cur, h2, h3, h4⟩ := ho
        exact ⟨⟨by show lookO O i ≠ none; rw [h]; simp, h1⟩, cur, h2, h3, RepA.ren x _ h4⟩
      | row E sz xs =>
        simp only [renO, RepO] at ho ⊢
        rcases ho with ⟨h1, h2, h3⟩ | ⟨h1, c, cur, h2⟩
        · exact .inl ⟨fun hh => h1 hh.2, h2, h3⟩
        · exact .inr ⟨⟨by show lookO O i ≠ none; rw [h]; simp, h1⟩, c, cur, h2⟩
  · constructor
    · intro i k hk
      simp only [mkSt] at hk ⊢
      rcases @look_mem L i with h | ⟨p, hp, e⟩
      · rw [h] at hk; simp [AV.refs] at hk
      · rw [← e] at hk; exact lookO_some (refsB_spec p.2 k (hc.1 p hp) hk)
    · intro i T sz x hi k hk
      simp only [mkSt] at hi ⊢
      have := hc.2 _ (lookO_mem hi)
      exact lookO_some (refsB_spec x k this hk)

/-! ### Contracts -/

def NoB : Nat → Prop := fun _ => False

def FnOk (P : Program) (f : FuncId) : Prop := ∃ fn, P.funcs[f]? = some fn ∧ (fn.name == "runtime.NumGoroutine") = false ∧ fn.body.isNone = false

/-- What a function hands back for closed data; 'fr': its result shares no memory with what came in. -/
def AFn (P : Program) (f : FuncId) (xs : List DV) (y : DV) (fr : Bool) : Prop := FnOk P f ∧
  ∀ (F : Nat → Prop) (w : World) (vs : List Value), All2 (RepV w F) xs vs →
    Calls P f vs.toArray w fun e w' => ∃ v, e = .returned v ∧ Below w.heap.size w w' ∧ RepV w' (fun k => (fr = false ∧ F k) ∨ w.heap.size ≤ k) y v

mutual
theorem RepD.restrict {w : World} {S : Nat → Prop} : ∀ (x : DV) (cs : List Value), RepD w S x cs → RepD w (fun k => S k ∧ k < w.heap.size) x cs
  | .v _, _, hr => hr
  | .st ns xs, cs, hr => RepF.restrict xs ns cs hr
  | .ar _ xs, cs, hr => RepF.restrict xs _ cs hr
  | .sl _ sz xs, cs, hr => by
    simp only [RepD] at hr ⊢
    obtain ⟨a, c, row, h1, h2, h3, h4⟩ := hr
    refine ⟨a, c, row, h1, h2, RepF.restrict xs _ row h3, ?_⟩
    rcases h4 with h4 | ⟨b, o, e, hb, hc⟩
    · exact .inl h4
    · cases row with
      | nil => exact .inl rfl
      | cons u us => exact .inr ⟨b, o, e, ⟨hb, World.block_lt_of_cell? w _ (hc 0 u rfl)⟩, hc⟩
  | .tup _, _, hr => by simp only [RepD] at hr
  | .pd x, cs, hr => by
    simp only [RepD] at hr ⊢
    obtain ⟨b, o, ds, h1, h2, h3⟩ := hr
    refine ⟨b, o, ds, h1, RepD.restrict x ds h2, ?_⟩
    rcases h3 with h3 | ⟨hb, hc⟩
    · exact .inl h3
    · cases ds with
      | nil => exact .inl rfl
      | cons u us => exact .inr ⟨⟨hb, World.block_lt_of_cell? w _ (hc 0 u rfl)⟩, hc⟩
  | .fn f xs, cs, hr => by
    simp only [RepD] at hr ⊢
    obtain ⟨vs, h1, h2⟩ := hr
    exact ⟨vs, h1, RepF.restrict xs _ vs h2⟩
theorem RepF.restrict {w : World} {S : Nat → Prop} : ∀ (xs : List DV) (ns : List Nat) (cs : List Value), RepF w S xs ns cs → RepF w (fun k => S k ∧ k < w.heap.size) xs ns cs
  | [], _, _, hr => by simpa only [RepF] using hr
  | x :: xs, ns, cs, hr => by
    simp only [RepF] at hr ⊢
    obtain ⟨n, ns', c1, c2, e1, e2, e3, h1, h2⟩ := hr
    exact ⟨n, ns', c1, c2, e1, e2, e3, RepD.restrict x c1 h1, RepF.restrict xs ns' c2 h2⟩
end

theorem RepV.restrict {w : World} {S : Nat → Prop} {x : DV} {u : Value} (hr : RepV w S x u) : RepV w (fun k => S k ∧ k < w.heap.size) x u := by
  cases x with
  | tup xs =>
    obtain ⟨us, e, hf⟩ := hr
    refine ⟨us, e, hf.imp fun x u a => ?_⟩
    rcases a with ⟨a1, cs, e, a2⟩ | ⟨a1, a2⟩
    · exact .inl ⟨a1, cs, e, RepD.restrict _ _ a2⟩
    · exact .inr ⟨a1, RepD.restrict _ _ a2⟩
  | st ns xs => obtain ⟨cs, e, hd⟩ := hr; exact ⟨cs, e, RepD.restrict _ _ hd⟩
  | ar ns xs => obtain ⟨cs, e, hd⟩ := hr; exact ⟨cs, e, RepD.restrict _ _ hd⟩
  | v x => exact RepD.restrict _ _ hr
  | sl E sz xs => exact RepD.restrict _ _ hr
  | pd x => exact RepD.restrict _ _ hr
  | fn f xs => exact RepD.restrict _ _ hr

end Go.Sim
