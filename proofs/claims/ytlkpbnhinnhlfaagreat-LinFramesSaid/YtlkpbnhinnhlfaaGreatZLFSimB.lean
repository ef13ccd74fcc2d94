/- What is proved: states written as lists, what is known less of one, and contracts of functions over closed data. -/
import Derived.Test.YtlkpbnhinnhlfaaGreatZLFSimA
import Derived.Laws.StructEq

namespace Go.Sim
open Go.RowKit
def look : List (Nat × AV) → Nat → AV
  | [], _ => .dead
  | p :: l, i => if Nat.beq i p.1 then p.2 else look l i
def lookO : List (Nat × Obj) → Nat → Option Obj
  | [], _ => none
  | p :: l, i => if Nat.beq i p.1 then some p.2 else lookO l i
def mkSt (L : List (Nat × AV)) (O : List (Nat × Obj)) : St := ⟨look L, lookO O⟩
mutual
def renA (f : Nat → Nat) : AV → AV
  | .dat x => .dat x
  | .st ns xs => .st ns (renL f xs)
  | .oref id => .oref (f id)
  | .pt id p off => .pt (f id) p off
  | .fb k fs cs => .fb k (fs.map f) (cs.map f)
  | .vw id l h sz => .vw (f id) l h sz
  | .sp x => .sp x
  | .dead => .dead
def renL (f : Nat → Nat) : List AV → List AV
  | [] => []
  | x :: xs => renA f x :: renL f xs
end
def renO (f : Nat → Nat) : Obj → Obj
  | .box T sz x => .box T sz (renA f x)
  | .row E sz xs => .row E sz xs
  | .mp ks xs => .mp ks xs
  | .rr T E sz xss hs => .rr T E sz xss (hs.map fun p => (p.1, f p.2))
  | .gone => .gone
def Gh.ren (g : Gh) (f : Nat → Nat) (h : Nat → Prop) : Gh := { S := g.S, blk := fun i => g.blk (f i), hdr := fun i => g.hdr (f i), has := fun i => h i ∧ g.has (f i), sub := fun i j b => h i ∧ g.sub (f i) j b }
mutual
theorem RepA.ren {w : World} {g : Gh} {f : Nat → Nat} {h : Nat → Prop} : ∀ (x : AV) (cs : List Value), RepA w g (renA f x) cs → RepA w (g.ren f h) x cs
  | .dat x, cs, hr => hr
  | .st ns xs, cs, hr => by simp only [renA, RepA] at hr ⊢; exact RepAF.ren xs ns cs hr
  | .oref id, cs, hr => hr
  | .pt id p off, cs, hr => hr
  | .fb k fs ks, cs, hr => by simp only [renA, RepA, fbV, List.map_map] at hr ⊢; exact hr
  | .vw id l h sz, cs, hr => hr
  | .sp x, cs, hr => hr
  | .dead, cs, hr => hr
theorem RepAF.ren {w : World} {g : Gh} {f : Nat → Nat} {h : Nat → Prop} : ∀ (xs : List AV) (ns : List Nat) (cs : List Value), RepAF w g (renL f xs) ns cs → RepAF w (g.ren f h) xs ns cs
  | [], ns, cs, hr => by simpa only [renL, RepAF] using hr
  | x :: xs, ns, cs, hr => by
    simp only [renL, RepAF] at hr ⊢
    obtain ⟨n, ns', c1, c2, e1, e2, e3, h1, h2⟩ := hr
    exact ⟨n, ns', c1, c2, e1, e2, e3, RepA.ren x c1 h1, RepAF.ren xs ns' c2 h2⟩
end
theorem RepS.ren {w : World} {g : Gh} {f : Nat → Nat} {h : Nat → Prop} {x : AV} {u : Value} (hr : RepS w g (renA f x) u) : RepS w (g.ren f h) x u := by
  cases x with
  | st ns xs => obtain ⟨cs, e, hd⟩ := hr; exact ⟨cs, e, RepA.ren (.st ns xs) cs hd⟩
  | fb k fs ks => simp only [renA, RepS, fbV, List.map_map] at hr ⊢; exact hr
  | _ => exact hr
mutual
/-- Are all objects that are named in the list? -/
def refsB (ks : List Nat) : AV → Bool
  | .dat _ => true
  | .st _ xs => refsBL ks xs
  | .oref id => ks.contains id
  | .pt id _ _ => ks.contains id
  | .vw id _ _ _ => ks.contains id
  | .fb _ fs cs => fs.all ks.contains && cs.all ks.contains
  | .sp _ => true
  | .dead => true
def refsBL (ks : List Nat) : List AV → Bool
  | [] => true
  | x :: xs => refsB ks x && refsBL ks xs
end
mutual
theorem refsB_spec {ks : List Nat} : ∀ (x : AV) (k : Nat), refsB ks x = true → x.refs k → k ∈ ks
  | .dat _, _, _, h => by simp [AV.refs] at h
  | .st _ xs, k, hb, h => by simp only [AV.refs, refsB] at h hb; exact refsBL_spec xs k hb h
  | .oref id, k, hb, h => by simp only [AV.refs, refsB] at h hb; subst h; simpa using hb
  | .pt id _ _, k, hb, h => by simp only [AV.refs, refsB] at h hb; subst h; simpa using hb
  | .vw id _ _ _, k, hb, h => by simp only [AV.refs, refsB] at h hb; subst h; simpa using hb
  | .fb _ fs cs, k, hb, h => by
    simp only [AV.refs, refsB, Bool.and_eq_true, List.all_eq_true] at h hb
    rcases h with h | h
    · simpa using hb.1 k h
    · simpa using hb.2 k h
  | .sp _, _, _, h => by simp [AV.refs] at h
  | .dead, _, _, h => by simp [AV.refs] at h
theorem refsBL_spec {ks : List Nat} : ∀ (xs : List AV) (k : Nat), refsBL ks xs = true → AV.refs.refsL xs k → k ∈ ks
  | [], _, _, h => by simp [AV.refs.refsL] at h
  | x :: xs, k, hb, h => by
    simp only [refsBL, Bool.and_eq_true, AV.refs.refsL] at h hb
    rcases h with h | h
    · exact refsB_spec x k hb.1 h
    · exact refsBL_spec xs k hb.2 h
end
def slotsOk (f : Nat → Nat) (σ : St) : List (Nat × AV) → Prop
  | [] => True
  | p :: l => σ.slot p.1 = renA f p.2 ∧ slotsOk f σ l
def objsOk (f : Nat → Nat) (σ : St) : List (Nat × Obj) → Prop
  | [] => True
  | p :: l => σ.obj (f p.1) = some (renO f p.2) ∧ objsOk f σ l
def closedB (ks : List Nat) (L : List (Nat × AV)) (O : List (Nat × Obj)) : Bool :=
  L.all (fun p => refsB ks p.2) && O.all (fun p => match p.2 with | .box _ _ x => refsB ks x | .rr _ _ _ _ hs => hs.all (fun q => ks.contains q.2) | _ => true)
/-- What was handed in keeps its number. -/
def fixR (f : Nat → Nat) (k : Nat) : Bool := (Nat.ble 1000000 (f k) && Nat.ble 1000000 k && Nat.beq (f k) k) || (!Nat.ble 1000000 (f k) && !Nat.ble 1000000 k)
def distinct (f : Nat → Nat) : List Nat → Bool
  | [] => true
  | k :: ks => ks.all (fun j => !Nat.beq (f k) (f j)) && (fixR f k && distinct f ks)
theorem look_spec {f : Nat → Nat} {σ : St} : ∀ {L : List (Nat × AV)}, slotsOk f σ L → ∀ i, look L i = .dead ∨ σ.slot i = renA f (look L i)
  | [], _, _ => .inl rfl
  | p :: l, h, i => by
    simp only [look]
    split
    · rename_i hi
      have := Nat.eq_of_beq_eq_true hi
      subst this
      exact .inr h.1
    · exact look_spec h.2 i
theorem look_mem : ∀ {L : List (Nat × AV)} {i : Nat}, look L i = .dead ∨ ∃ p ∈ L, p.2 = look L i
  | [], _ => .inl rfl
  | p :: l, i => by
    simp only [look]
    split
    · exact .inr ⟨p, by simp, rfl⟩
    · rcases @look_mem l i with h | ⟨q, hq, e⟩
      · exact .inl h
      · exact .inr ⟨q, by simp [hq], e⟩
theorem lookO_mem : ∀ {O : List (Nat × Obj)} {i : Nat} {o : Obj}, lookO O i = some o → (i, o) ∈ O
  | [], _, _, h => by simp [lookO] at h
  | p :: l, i, o, h => by
    simp only [lookO] at h
    split at h
    · rename_i hi
      have := Nat.eq_of_beq_eq_true hi
      subst this
      simp only [Option.some.injEq] at h
      subst h
      simp
    · exact List.mem_cons_of_mem _ (lookO_mem h)
theorem lookO_some : ∀ {O : List (Nat × Obj)} {k : Nat}, k ∈ O.map (·.1) → lookO O k ≠ none
  | [], _, h => by simp at h
  | p :: l, k, h => by
    simp only [lookO]
    split
    · simp
    · rename_i hi
      simp only [List.map_cons, List.mem_cons] at h
      rcases h with rfl | h
      · exact absurd (Nat.beq_refl _) hi
      · exact lookO_some h
theorem lookO_spec {f : Nat → Nat} {σ : St} {O : List (Nat × Obj)} (h : objsOk f σ O) {i : Nat} {o : Obj} (hi : lookO O i = some o) : σ.obj (f i) = some (renO f o) := by
  have := lookO_mem hi
  clear hi
  induction O with
  | nil => cases this
  | cons p l ih =>
    rcases List.mem_cons.1 this with e | e
    · subst e; exact h.1
    · exact ih h.2 e
theorem distinct_spec {f : Nat → Nat} : ∀ {ks : List Nat}, distinct f ks = true → ∀ i j, i ∈ ks → j ∈ ks → i ≠ j → f i ≠ f j
  | [], _, _, _, h, _, _ => by cases h
  | k :: ks, h, i, j, hi, hj, hne => by
    simp only [distinct, Bool.and_eq_true, List.all_eq_true, Bool.not_eq_true'] at h
    obtain ⟨h1, _, h2⟩ := h
    have key : ∀ m, m ∈ ks → f k ≠ f m := fun m hm e => by
      have := h1 m hm
      rw [e, Nat.beq_refl] at this
      cases this
    rcases List.mem_cons.1 hi with e1 | hi
    · rcases List.mem_cons.1 hj with e2 | hj
      · exact absurd (e1.trans e2.symm) hne
      · rw [e1]; exact key j hj
    · rcases List.mem_cons.1 hj with e2 | hj
      · rw [e2]; exact fun e => key i hi e.symm
      · exact distinct_spec h2 i j hi hj hne
theorem holeAt_ren (f : Nat → Nat) (j : Nat) : ∀ hs : List (Nat × Nat), holeAt (hs.map fun p => (p.1, f p.2)) j = (holeAt hs j).map f
  | [] => rfl
  | p :: hs => by
    have ih := holeAt_ren f j hs
    unfold holeAt at ih ⊢
    simp only [List.map_cons, List.find?_cons]
    cases Nat.beq p.1 j with
    | true => rfl
    | false => exact ih
theorem distinct_fix {f : Nat → Nat} : ∀ {ks : List Nat}, distinct f ks = true → ∀ i ∈ ks, fixR f i = true
  | [], _, _, hi => by cases hi
  | k :: ks, h, i, hi => by
    simp only [distinct, Bool.and_eq_true] at h
    rcases List.mem_cons.1 hi with rfl | hi
    · exact h.2.1
    · exact distinct_fix h.2.2 i hi
theorem fixR_mine {f : Nat → Nat} {B : Nat → Nat → Prop} {w0 : World} {i k : Nat} (h : fixR f i = true) (m : Mine B w0 (f i) k) : Mine B w0 i k := by
  unfold fixR at h
  simp only [Bool.or_eq_true, Bool.and_eq_true, Bool.not_eq_true'] at h
  rcases h with ⟨⟨h1, h2⟩, h3⟩ | ⟨h1, h2⟩
  · rw [Nat.eq_of_beq_eq_true h3] at m; exact m
  · have a1 : ¬ 1000000 ≤ f i := fun k => by rw [Nat.ble_eq_true_of_le k] at h1; cases h1
    have a2 : ¬ 1000000 ≤ i := fun k => by rw [Nat.ble_eq_true_of_le k] at h2; cases h2
    exact .inl ⟨by omega, m.new (by omega)⟩
/-- What is known less: the slots and objects of a list, these by other numbers. -/
theorem Sub.list {σ : St} (f : Nat → Nat) {L : List (Nat × AV)} {O : List (Nat × Obj)} (hd : distinct f (O.map (·.1)) = true) (hc : closedB (O.map (·.1)) L O = true)
    (hL : slotsOk f σ L) (hO : objsOk f σ O) : Sub (mkSt L O) σ := by
  rintro B F w0 n a w ⟨g, r⟩
  have hin : ∀ i, lookO O i ≠ none → i ∈ O.map (·.1) := fun i hi => by
    cases h : lookO O i with
    | none => exact absurd h hi
    | some o => exact List.mem_map.2 ⟨_, lookO_mem h, rfl⟩
  simp only [closedB, Bool.and_eq_true, List.all_eq_true] at hc
  refine ⟨g.ren f (fun i => lookO O i ≠ none), { os := r.os, tape := r.tape, output := r.output, size := r.size, old := r.old, n := r.n, nlt := r.nlt, glob := r.glob, defers := r.defers, sF := r.sF, sB := r.sB, own := fun i hi => ⟨(r.own (f i) hi.2).1, fixR_mine (distinct_fix hd i (hin i hi.1)) (r.own (f i) hi.2).2.1, (r.own (f i) hi.2).2.2⟩, dj := ?_, slots := ?_, objs := ?_, ok := ?_, hv := fun i => r.hv (f i), sub := ?_ }⟩
  · intro i j hij hi hj
    exact r.dj (f i) (f j) (distinct_spec hd i j (hin i hi.1) (hin j hj.1) hij) hi.2 hj.2
  · intro i
    rcases look_spec hL i with h | h
    · simp only [mkSt, h]; trivial
    · have := r.slots i
      rw [h] at this
      exact RepS.ren this
  · intro i
    simp only [mkSt]
    cases h : lookO O i with
    | none => simp only [RepO, Gh.ren]; exact fun hh => hh.1 h
    | some o =>
      have ho := r.objs (f i)
      rw [lookO_spec hO h] at ho
      cases o with
      | gone => simp only [renO, RepO, Gh.ren] at ho ⊢; exact fun hh => ho hh.2
      | mp ks xs =>
        simp only [renO, RepO, Gh.ren] at ho ⊢
        obtain ⟨h1, h2, es, clock, h3⟩ := ho
        exact ⟨⟨by show lookO O i ≠ none; rw [h]; simp, h1⟩, h2, es, clock, h3⟩
      | box T sz x =>
        simp only [renO, RepO] at ho ⊢
        obtain ⟨h1, cur, h2, h3, h4⟩ := ho
        exact ⟨⟨by show lookO O i ≠ none; rw [h]; simp, h1⟩, cur, h2, h3, RepA.ren x _ h4⟩
      | row E sz xs =>
        simp only [renO, RepO] at ho ⊢
        rcases ho with ⟨h1, h2, h3⟩ | ⟨h1, c, cur, h2⟩
        · exact .inl ⟨fun hh => h1 hh.2, h2, h3⟩
        · exact .inr ⟨⟨by show lookO O i ≠ none; rw [h]; simp, h1⟩, c, cur, h2⟩
      | rr T E sz xss hs =>
        have hpres : lookO O i ≠ none := by rw [h]; simp
        simp only [renO, RepO] at ho ⊢
        obtain ⟨h1, c, cur, h2, h3, h4, h5, h6, h7⟩ := ho
        refine ⟨⟨hpres, h1⟩, c, cur, h2, h3, h4, h5, h6, fun j xs hj => ?_⟩
        obtain ⟨u, k1, k2⟩ := h7 j xs hj
        refine ⟨u, k1, ?_⟩
        rw [holeAt_ren] at k2
        cases hho : holeAt hs j with
        | some d => rw [hho] at k2; exact k2
        | none =>
          rw [hho] at k2
          simp only [Option.map_none] at k2 ⊢
          rcases k2 with k2 | ⟨b0, c0, cur0, m1, m2⟩
          · exact .inl k2
          · exact .inr ⟨b0, c0, cur0, ⟨hpres, m1⟩, m2⟩
  · refine ⟨?_, ?_, ?_⟩
    · intro i k hk
      simp only [mkSt] at hk ⊢
      rcases @look_mem L i with h | ⟨p, hp, e⟩
      · rw [h] at hk; simp [AV.refs] at hk
      · rw [← e] at hk; exact lookO_some (refsB_spec p.2 k (hc.1 p hp) hk)
    · intro i T sz x hi k hk
      simp only [mkSt] at hi ⊢
      have := hc.2 _ (lookO_mem hi)
      exact lookO_some (refsB_spec x k this hk)
    · intro i T E sz xss hs hi p hp
      simp only [mkSt] at hi ⊢
      have := hc.2 _ (lookO_mem hi)
      have := List.all_eq_true.1 this p hp
      exact lookO_some (by simpa using this)
  · rintro i j b ⟨hi, hb⟩
    obtain ⟨k1, k2, k3, k4, k5⟩ := r.sub (f i) j b hb
    refine ⟨k1, k2, k3, fun k hk => k4 (f k) hk.2, fun i' j' hb' => ?_⟩
    obtain ⟨m1, m2⟩ := k5 (f i') j' hb'.2
    refine ⟨Classical.byContradiction fun hne => ?_, m2⟩
    exact distinct_spec hd i' i (hin i' hb'.1) (hin i hi) hne m1
/-! ### Contracts -/
def NoB : Nat → Nat → Prop := fun _ _ => False
def FnOk (P : Program) (f : FuncId) : Prop := ∃ fn, P.funcs[f]? = some fn ∧ (fn.name == "runtime.NumGoroutine") = false ∧ fn.body.isNone = false
/-- What a function hands back for closed data; 'fr': its result shares no memory with what came in. -/
def AFn (P : Program) (f : FuncId) (xs : List DV) (y : DV) (fr : Bool) : Prop := FnOk P f ∧
  ∀ (F : Nat → Prop) (w : World) (vs : List Value), GOk NoB w → All2 (RepV w F) xs vs →
    Calls P f vs.toArray w fun e w' => ∃ v, e = .returned v ∧ Below w.heap.size w w' ∧ RepV w' (fun k => (fr = false ∧ F k) ∨ w.heap.size ≤ k) y v
mutual
theorem RepD.restrict {w : World} {S : Nat → Prop} : ∀ (x : DV) (cs : List Value), RepD w S x cs → RepD w (fun k => S k ∧ k < w.heap.size) x cs
  | .v _, _, hr => hr
  | .st ns xs, cs, hr => RepF.restrict xs ns cs hr
  | .ar _ xs, cs, hr => RepF.restrict xs _ cs hr
  | .sl _ sz xs, cs, hr => by
    simp only [RepD] at hr ⊢
    obtain ⟨a, c, row, h1, h2, h3, h4⟩ := hr
    refine ⟨a, c, row, h1, h2, RepF.restrict xs _ row h3, ?_⟩
    rcases h4 with h4 | ⟨b, o, e, hb, hc⟩
    · exact .inl h4
    · cases row with
      | nil => exact .inl rfl
      | cons u us => exact .inr ⟨b, o, e, ⟨hb, World.block_lt_of_cell? w _ (hc 0 u rfl)⟩, hc⟩
  | .tup _, _, hr => by simp only [RepD] at hr
  | .pd x, cs, hr => by
    simp only [RepD] at hr ⊢
    obtain ⟨b, o, ds, h1, h2, h3⟩ := hr
    refine ⟨b, o, ds, h1, RepD.restrict x ds h2, ?_⟩
    rcases h3 with h3 | ⟨hb, hc⟩
    · exact .inl h3
    · cases ds with
      | nil => exact .inl rfl
      | cons u us => exact .inr ⟨⟨hb, World.block_lt_of_cell? w _ (hc 0 u rfl)⟩, hc⟩
  | .fn f xs, cs, hr => by
    simp only [RepD] at hr ⊢
    obtain ⟨vs, h1, h2⟩ := hr
    exact ⟨vs, h1, RepF.restrict xs _ vs h2⟩
  | .any _, _, hr => hr
  | .mp ks xs, cs, hr => by
    simp only [RepD] at hr ⊢
    obtain ⟨r, es, clock, h1, h2, h3, h4, h5⟩ := hr
    exact ⟨r, es, clock, h1, ⟨h2, (Array.getElem?_eq_some_iff.1 h3).1⟩, h3, h4, RepE.restrict xs _ h5⟩
theorem RepF.restrict {w : World} {S : Nat → Prop} : ∀ (xs : List DV) (ns : List Nat) (cs : List Value), RepF w S xs ns cs → RepF w (fun k => S k ∧ k < w.heap.size) xs ns cs
  | [], _, _, hr => by simpa only [RepF] using hr
  | x :: xs, ns, cs, hr => by
    simp only [RepF] at hr ⊢
    obtain ⟨n, ns', c1, c2, e1, e2, e3, h1, h2⟩ := hr
    exact ⟨n, ns', c1, c2, e1, e2, e3, RepD.restrict x c1 h1, RepF.restrict xs ns' c2 h2⟩
theorem RepE.restrict {w : World} {S : Nat → Prop} : ∀ (xs : List DV) (vs : List Value), RepE w S xs vs → RepE w (fun k => S k ∧ k < w.heap.size) xs vs
  | [], _, hr => by simpa only [RepE] using hr
  | x :: xs, vs, hr => by
    simp only [RepE] at hr ⊢
    obtain ⟨v, vs', e, h1, h2⟩ := hr
    refine ⟨v, vs', e, ?_, RepE.restrict xs vs' h2⟩
    rcases h1 with ⟨a1, cs, e1, a2⟩ | ⟨a1, a2⟩
    · exact .inl ⟨a1, cs, e1, RepD.restrict x cs a2⟩
    · exact .inr ⟨a1, RepD.restrict x [v] a2⟩
end
theorem RepV.restrict {w : World} {S : Nat → Prop} {x : DV} {u : Value} (hr : RepV w S x u) : RepV w (fun k => S k ∧ k < w.heap.size) x u := by
  cases x with
  | tup xs =>
    obtain ⟨us, e, hf⟩ := hr
    refine ⟨us, e, hf.imp fun x u a => ?_⟩
    rcases a with ⟨a1, cs, e, a2⟩ | ⟨a1, a2⟩
    · exact .inl ⟨a1, cs, e, RepD.restrict _ _ a2⟩
    · exact .inr ⟨a1, RepD.restrict _ _ a2⟩
  | st ns xs => obtain ⟨cs, e, hd⟩ := hr; exact ⟨cs, e, RepD.restrict _ _ hd⟩
  | ar ns xs => obtain ⟨cs, e, hd⟩ := hr; exact ⟨cs, e, RepD.restrict _ _ hd⟩
  | v x => exact RepD.restrict _ _ hr
  | sl E sz xs => exact RepD.restrict _ _ hr
  | pd x => exact RepD.restrict _ _ hr
  | fn f xs => exact RepD.restrict _ _ hr
  | any p => exact RepD.restrict _ _ hr
  | mp ks xs => exact RepD.restrict _ _ hr
end Go.Sim
/- What is proved: a contract out of the rules for its function's code, and a call by a contract. -/
namespace Go.Sim
open Go.RowKit
def argL : Nat → List DV → List (Nat × AV)
  | _, [] => []
  | i, x :: xs => (i, .dat x) :: argL (i + 1) xs
theorem look_argL : ∀ (xs : List DV) (k i : Nat), look (argL k xs) i = if k ≤ i then (match xs[i - k]? with | some x => .dat x | none => .dead) else .dead
  | [], k, i => by simp [argL, look]
  | x :: xs, k, i => by
    simp only [argL, look, look_argL xs]
    by_cases h : i = k
    · subst h; simp
    · have : Nat.beq i k = false := by
        cases hb : Nat.beq i k with
        | false => rfl
        | true => exact absurd (Nat.eq_of_beq_eq_true hb) h
      rw [this]
      simp only [Bool.false_eq_true, if_false]
      by_cases h2 : k ≤ i
      · rw [if_pos (by omega), if_pos h2]
        obtain ⟨m, hm⟩ : ∃ m, i - k = m + 1 := ⟨i - k - 1, by omega⟩
        rw [show i - (k + 1) = m by omega, hm]
        simp
      · rw [if_neg (by omega), if_neg h2]
def resV (T : Tab) (σ : St) : ResultVar → Option DV
  | .tmp t => match σ.slot t with
    | .dat (.tup _) => none
    | .dat x => some x
    | .oref id => match σ.obj id with | some (.row E sz xs) => some (.sl E sz xs) | _ => none
    | _ => none
  | .cell t ty => match σ.slot t with
    | .pt id [] 0 => match σ.obj id, tget T ty with
      | some (.box _ _ (.dat x)), some te => if te.d.agg = x.agg ∧ (x.agg = true → te.size = x.len) then some x else none
      | _, _ => none
    | _ => none
def resL (T : Tab) (σ : St) : List ResultVar → Option (List DV)
  | [] => some []
  | r :: rs => match resV T σ r, resL T σ rs with | some x, some xs => some (x :: xs) | _, _ => none
def fin : List DV → DV
  | [x] => x
  | xs => .tup xs
def outQ (T : Tab) (rs : List ResultVar) (y : DV) : AExit → St → Prop
  | .exit _, _ => False
  | .panic _, _ => False
  | _, σ => ∃ ds, resL T σ rs = some ds ∧ fin ds = y
section
variable {P : Program} {N : Value → Prop} {T : Tab}
def allS (σ : St) (g : Gh) : Nat → Prop := fun k => g.S k ∨ ∃ id E sz xs, σ.obj id = some (.row E sz xs) ∧ g.has id ∧ k = g.blk id
theorem row_sl {B : Nat → Nat → Prop} {F : Cx} {w0 w : World} {n : Nat} {σ : St} {a : Act} {g : Gh} (h : RelG B F w0 n σ a w g) {id : Nat} {E : TypeId} {sz : Nat} {xs : List DV} (hobj : σ.obj id = some (.row E sz xs)) :
    RepD w (allS σ g) (.sl E sz xs) [g.hdr id] := by
  have ho := h.objs id
  rw [hobj] at ho
  simp only [RepO] at ho
  simp only [RepD]
  rcases ho with ⟨m1, rfl, m3⟩ | ⟨m1, c, cur, m2, m3, m4, m5, m6, m7⟩
  · exact ⟨none, 0, [], by simp [m3], by simp, by simp [RepF], .inl rfl⟩
  · refine ⟨_, c, _, by rw [m2], m5, RepF.frame (fun _ hk => .inl hk) (fun k _ _ => rfl) _ _ _ m7, .inr ⟨g.blk id, 0, rfl, .inr ⟨id, E, sz, xs, hobj, m1, rfl⟩, fun j u hj => ?_⟩⟩
    rw [cell_of_row w _ _ cur E (0, 0) m3]
    rw [List.getElem?_take] at hj
    split at hj
    · simpa using hj
    · cases hj
theorem resV_run (hT : TabOk P T) {B : Nat → Nat → Prop} {F : Cx} {w0 w : World} {n : Nat} {σ : St} {a : Act} {g : Gh} (h : RelG B F w0 n σ a w g) {r : ResultVar} {x : DV} (hr : resV T σ r = some x) :
    ∃ u, (match r with | .tmp t => (pure (a.tmps.getD t undef) : Sem Value) | .cell c t => do loadVar t (← asAddr (a.tmps.getD c undef))).run P w = .ok u w ∧ RepU w (allS σ g) x u := by
  cases r with
  | tmp t =>
    refine ⟨_, rfl, ?_⟩
    have hs := h.slots t
    simp only [resV] at hr
    split at hr
    · cases hr
    · rename_i y hy e
      simp only [Option.some.injEq] at hr
      subst hr
      rw [e] at hs
      exact RepV.u (RepV.frame (fun _ hk => .inl hk) (fun _ _ _ => rfl) hs) (fun zs hz => hy zs (by rw [hz]))
    · rename_i id e
      rw [e] at hs
      split at hr
      · rename_i E sz xs ho
        simp only [Option.some.injEq] at hr
        subst hr
        simp only [RepS] at hs
        rw [hs]
        exact .inr ⟨rfl, row_sl h ho⟩
      · cases hr
    · cases hr
  | cell c t =>
    simp only [resV] at hr
    split at hr
    · rename_i id e
      have hs := h.slots c
      rw [e] at hs
      simp only [RepS] at hs
      split at hr
      · rename_i T' sz y te ho hte
        split at hr
        · rename_i hcond
          simp only [Option.some.injEq] at hr
          subst hr
          have hO := h.objs id
          rw [ho] at hO
          simp only [RepO] at hO
          obtain ⟨h1, cur, h2, h3, h4⟩ := hO
          obtain ⟨u, hu, hrep⟩ := run_load_at (hT t te hte) (g := g) (y := .dat y) (cs := cur.toList) (b := g.blk id) (o := 0) h4 (fun j v hj => by
            rw [Nat.zero_add, cell_of_row w _ _ cur T' (0, 0) h2]; simpa using hj) hcond.1 hcond.2
          refine ⟨u, ?_, ?_⟩
          · simp only [Instr.loadAt, Instr.sureAddr] at hu
            simp only [hs, asAddr]
            exact hu
          · have hlen := RepA.len h4
            refine RepV.u (RepV.frame (fun _ hk => .inl hk) (fun _ _ _ => rfl) hrep) (fun zs hz => ?_)
            subst hz
            simp only [RepA, RepD] at h4
        · cases hr
      · cases hr
    · cases hr
theorem resL_run (hT : TabOk P T) {B : Nat → Nat → Prop} {F : Cx} {w0 w : World} {n : Nat} {σ : St} {a : Act} {g : Gh} (h : RelG B F w0 n σ a w g) : ∀ (rs : List ResultVar) (ds : List DV), resL T σ rs = some ds →
    ∃ us : List Value, (rs.mapM fun (r : ResultVar) => (match r with | .tmp t => (pure (a.tmps.getD t undef) : Sem Value) | .cell c t => do loadVar t (← asAddr (a.tmps.getD c undef)))).run P w = .ok us w ∧ All2 (RepU w (allS σ g)) ds us
  | [], ds, hr => by simp only [resL, Option.some.injEq] at hr; subst hr; exact ⟨[], rfl, .nil⟩
  | r :: rs, ds, hr => by
    simp only [resL] at hr
    split at hr
    · rename_i x xs hx hxs
      simp only [Option.some.injEq] at hr
      subst hr
      obtain ⟨u, hu, h1⟩ := resV_run hT h hx
      obtain ⟨us, hus, h2⟩ := resL_run hT h rs xs hxs
      exact ⟨u :: us, by rw [List.mapM_cons, Sem.run_bind, hu, Result.andThen_ok, Sem.run_bind, hus]; rfl, .cons h1 h2⟩
    · cases hr
theorem All2.length {α β : Type} {R : α → β → Prop} : ∀ {xs : List α} {ys : List β}, All2 R xs ys → xs.length = ys.length
  | _, _, .nil => rfl
  | _, _, .cons _ h => by simp [All2.length h]
theorem results_run (hT : TabOk P T) {B : Nat → Nat → Prop} {F : Cx} {w0 w : World} {n : Nat} {σ : St} {a : Act} {g : Gh} (h : RelG B F w0 n σ a w g) {fn : Func} {ds : List DV} (hr : resL T σ fn.results.toList = some ds) :
    ∃ v, (results fn a.tmps).run P w = .ok v w ∧ RepV w (allS σ g) (fin ds) v := by
  obtain ⟨us, hus, hrep⟩ := resL_run hT h _ ds hr
  have e : fn.results = fn.results.toList.toArray := by simp
  unfold results
  rw [Sem.run_bind, e, List.mapM_toArray, Sem.run_map]
  erw [hus]
  simp only [Result.andThen_ok]
  refine ⟨_, rfl, ?_⟩
  have hl := All2.length hrep
  cases hrep with
  | nil => exact ⟨[], rfl, .nil⟩
  | cons h1 h2 =>
    cases h2 with
    | nil => simpa [fin] using RepU.v h1
    | cons h3 h4 =>
      have : ∀ (u1 u2 : Value) (us : List Value), (if hh : (u1 :: u2 :: us).toArray.size = 1 then (u1 :: u2 :: us).toArray[0] else .tuple (u1 :: u2 :: us).toArray) = .tuple (u1 :: u2 :: us).toArray := fun u1 u2 us => by simp
      rw [this]
      exact ⟨_, rfl, .cons h1 (.cons h3 h4)⟩
theorem All2.get {α β : Type} {R : α → β → Prop} : ∀ {xs : List α} {ys : List β}, All2 R xs ys → ∀ {i : Nat} {x : α}, xs[i]? = some x → ∃ y, ys[i]? = some y ∧ R x y
  | _, _, .cons h t, 0, x, hx => by simp at hx; subst hx; exact ⟨_, rfl, h⟩
  | _, _, .cons h t, i + 1, x, hx => by simp at hx; simpa using All2.get t hx
  | _, _, .nil, i, x, hx => by simp at hx
/-- A contract out of the rules for the function's code. -/
theorem AFn.intro {f : FuncId} {fn : Func} {c : Code} {xs : List DV} {y : DV} (hT : TabOk P T) (hf : P.funcs[f]? = some fn) (hb : fn.body = some c) (hn : (fn.name == "runtime.NumGoroutine") = false)
    (hl : xs.length ≤ fn.ntmps) (hnl : fn.ntmps ≤ 1000000) (hw : AWp P NoB fn.ntmps c (mkSt (argL 0 xs) []) (outQ T fn.results.toList y)) : AFn P f xs y false := by
  refine ⟨⟨fn, hf, hn, by rw [hb]; rfl⟩, fun F w vs hgl hvs => ?_⟩
  have hlen := All2.length hvs
  refine calls_of_wp hf hb (wp_mono (hw ⟨F, []⟩ w _ w ⟨{ S := fun k => F k ∧ k < w.heap.size, blk := fun _ => 0, hdr := fun _ => .bool true, has := fun _ => False, sub := fun _ _ _ => False }, ?_⟩) fun e a' w' hp => ?_)
  · refine { os := rfl, tape := rfl, output := rfl, size := Nat.le_refl _, old := fun _ _ _ => rfl, n := ?_, nlt := hnl, glob := hgl, defers := rfl, sF := fun k hk => .inl hk.1, sB := fun k hk => hk.2, own := fun i hi => hi.elim, dj := fun i j _ hi => hi.elim, slots := fun i => ?_, objs := fun i => ?_, ok := ?_, hv := fun _ => rfl, sub := fun i j b hb => hb.elim }
    · simp; omega
    · simp only [mkSt, look_argL, Nat.zero_le, if_true, Nat.sub_zero]
      split
      · rename_i x hx
        obtain ⟨u, hu, hr⟩ := hvs.get hx
        have hi : i < vs.length := (List.getElem?_eq_some_iff.1 hu).1
        have : (vs.toArray ++ Array.replicate (fn.ntmps - vs.toArray.size) undef).getD i undef = u := by
          rw [Array.getD_eq_getD_getElem?, Array.getElem?_append_left (by simpa using hi)]
          simp [hu]
        rw [this]
        exact RepV.restrict hr
      · trivial
    · simp [mkSt, lookO, RepO]
    · refine ⟨fun i k hk => ?_, fun i T sz x hi => by simp [mkSt, lookO] at hi, fun i T E sz xss hs hi => by simp [mkSt, lookO] at hi⟩
      simp only [mkSt, look_argL] at hk
      split at hk
      · split at hk <;> simp [AV.refs] at hk
      · simp [AV.refs] at hk
  · have fin : ∀ (σ : St) (ds : List DV), resL T σ fn.results.toList = some ds → Rel NoB ⟨F, []⟩ w fn.ntmps σ a' w' → a'.defers = [] ∧ ∃ v, (results fn a'.tmps).run P w' = .ok v w' ∧
        (∃ v', Ending.returned v = .returned v' ∧ Below w.heap.size w w' ∧ RepV w' (fun k => (false = false ∧ F k) ∨ w.heap.size ≤ k) (Sim.fin ds) v') := by
      rintro σ ds h1 ⟨g, rg⟩
      obtain ⟨v, hv, hrep⟩ := results_run hT rg h1
      refine ⟨rg.defers, v, hv, v, rfl, ⟨rg.os, rg.tape, rg.output, rg.size, fun k hk => rg.old k hk (fun _ h => h)⟩, RepV.frame (fun k hk => ?_) (fun _ _ _ => rfl) hrep⟩
      rcases hk with hk | ⟨id, _, _, _, _, h2, rfl⟩
      · exact (rg.sF k hk).imp (fun h => ⟨rfl, h⟩) id
      · exact .inr ((rg.own id h2).2.1.elim (fun h => h.2) (fun h => h.2.elim))
    cases e with
    | normal => obtain ⟨σ, ⟨ds, h1, rfl⟩, h3⟩ := hp; exact fin σ ds h1 h3
    | ret => obtain ⟨σ, ⟨ds, h1, rfl⟩, h3⟩ := hp; exact fin σ ds h1 h3
    | exit i => obtain ⟨σ, h1, h3⟩ := hp; exact h1
    | goto l => exact hp.elim
    | panic ch => obtain ⟨v, σ, _, h, _⟩ := hp; exact h.elim
    | outgrown => exact hp.elim
/-! ### Calls -/
def argOk (σ : St) (fr : Bool) (x : Operand) (d : DV) : Prop :=
  ev σ x = .dat d ∨ (∃ E sz, ev σ x = .dat (.v (.slice none 0 0)) ∧ d = .sl E sz []) ∨ (fr = true ∧ ∃ id E sz zs, ev σ x = .oref id ∧ σ.obj id = some (.row E sz zs) ∧ d = .sl E sz zs)
def argsOk (σ : St) (fr : Bool) : List Operand → List DV → Prop
  | [], [] => True
  | x :: xs, d :: ds => argOk σ fr x d ∧ argsOk σ fr xs ds
  | _, _ => False
theorem argsOk_rep {B : Nat → Nat → Prop} {F : Cx} {w0 w : World} {n : Nat} {σ : St} {a : Act} {g : Gh} (h : RelG B F w0 n σ a w g) {fr : Bool} : ∀ (args : List Operand) (xs : List DV), argsOk σ fr args xs →
    All2 (RepV w (fun k => g.S k ∨ (fr = true ∧ ∃ id, g.has id ∧ k = g.blk id))) xs (args.map a.eval)
  | [], [], _ => .nil
  | x :: args, d :: xs, ha => by
    refine .cons ?_ (argsOk_rep h args xs ha.2)
    have hev := ev_rep h x
    rcases ha.1 with e | ⟨E, sz, e, rfl⟩ | ⟨rfl, id, E, sz, zs, e, ho, rfl⟩
    · rw [e] at hev; exact RepV.frame (fun _ hk => .inl hk) (fun _ _ _ => rfl) hev
    · rw [e] at hev
      have := raw_eval hev rfl
      rw [this]
      simp only [RepV, RepD]
      exact ⟨none, 0, [], rfl, by simp, by simp [RepF], .inl rfl⟩
    · rw [e] at hev
      simp only [RepS] at hev
      rw [hev]
      exact RepD.frame (fun k hk => hk.imp (fun h => h) (fun ⟨id, _, _, _, _, h1, h2⟩ => ⟨rfl, id, h1, h2⟩)) (fun _ _ _ => rfl) _ _ (row_sl h ho)
  | [], _ :: _, h => h.elim
  | _ :: _, [], h => h.elim
theorem argsOk_agree {σ σ' : St} {fr : Bool} : ∀ (args : List Operand) (xs : List DV), (∀ x ∈ args, ev σ' x = ev σ x) → (∀ x ∈ args, ∀ k, (ev σ x).refs k → σ'.obj k = σ.obj k) → argsOk σ fr args xs → argsOk σ' fr args xs
  | [], [], _, _, _ => trivial
  | x :: args, d :: xs, h1, h2, ha => by
    refine ⟨?_, argsOk_agree args xs (fun z hz => h1 z (by simp [hz])) (fun z hz => h2 z (by simp [hz])) ha.2⟩
    have e1 := h1 x (by simp)
    have e2 := h2 x (by simp)
    rcases ha.1 with e | ⟨E, sz, e, h⟩ | ⟨hfr, id, E, sz, zs, e, ho, h⟩
    · exact .inl (by rw [e1, e])
    · exact .inr (.inl ⟨E, sz, by rw [e1, e], h⟩)
    · exact .inr (.inr ⟨hfr, id, E, sz, zs, by rw [e1, e], by rw [e2 id (by rw [e]; simp [AV.refs])]; exact ho, h⟩)
  | [], _ :: _, _, _, h => h.elim
  | _ :: _, [], _, _, h => h.elim
theorem Ok_dat {σ : St} (ok : σ.Ok) (d : Option Nat) (x : DV) : (Eff.app ⟨.dat x, []⟩ d σ).Ok := by
  refine ⟨fun i k hk => ?_, ok_tail (app_obj _ _ _) ok.2⟩
  rw [app_slot] at hk
  rw [app_obj]
  split at hk
  · simp [AV.refs] at hk
  · exact ok.1 i k hk
theorem RelG.putO {B : Nat → Nat → Prop} {F : Cx} {w0 w : World} {n : Nat} {σ : St} {a : Act} {g : Gh} (h : RelG B F w0 n σ a w g) {x : AV} {u : Value} (d : Option Nat) (hx : RepS w g x u) (hr : ∀ k, x.refs k → σ.obj k ≠ none)
    (hd : ∀ i, d = some i → i < n) : RelG B F w0 n (Sim.putO σ d x) (a.put d u) w g := by
  cases d with
  | none => exact h
  | some d => exact h.put hx hr (hd d rfl)
theorem Step.call {c : Bool} {σ : St} {o : Oper} {f : FuncId} {args : List Operand} {ats : Array TypeId} {xs : List DV} {y : DV} {fr : Bool}
    (ho : o.op = .call { callee := .value (.func f), args := args.toArray, argTypes := ats }) (hc : AFn P f xs y fr) (ha : argsOk σ fr args xs) : Step P N c σ o ⟨.dat y, []⟩ where
  ok := by
    rintro σ' ⟨g1, g2, g3⟩ B F w0 n a w hd ⟨g, r⟩ Q _
    have hops : ∀ x ∈ args, x ∈ o.op.operands := fun x hx => by rw [ho]; simp [Op.operands, Call.operands, hx]
    have hl : looks o = true := by simp [looks, ho]
    have ha' := argsOk_agree args xs (fun x hx => g1 x (hops x hx)) (fun x hx => g3 hl x (hops x hx)) ha
    have hrep := argsOk_rep r args xs ha'
    obtain ⟨⟨fn, hf, hname, hbody⟩, hcalls⟩ := hc
    have hcall := hcalls _ w _ (r.gok fun _ _ h => h.elim) hrep
    unfold Oper.wp
    have hrun : (execOp a.eval o).run P w = .ok (.enter f (args.map a.eval).toArray) w := by
      simp only [execOp, ho, resolve, Act.eval, Deferred.ofValue, Sem.run_bind, Sem.run_pure, Result.andThen_ok, invoke, callFunc, run_program, hf, hname, hbody]
      simp
    rw [hrun, Oper.upon_enter]
    refine hcall.mono ?_
    rintro e w' ⟨v, rfl, hb, hv⟩
    have hw := r.world (w' := w') hb.os hb.tape hb.output hb.size hb.block (fun k => w.heap.size ≤ k ∧ k < w'.heap.size) (fun k hk => hk)
    refine ⟨_, RelG.putO hw o.dst (x := .dat y) (RepV.frame (fun k hk => ?_) (fun _ _ _ => rfl) hv.restrict) (fun k hk => by simp [AV.refs] at hk) hd⟩
    obtain ⟨hk, hlt⟩ := hk
    rcases hk with ⟨hfr, hk⟩ | hk
    · rcases hk with hk | ⟨h1, _⟩
      · exact .inl hk
      · rw [hfr] at h1; cases h1
    · exact .inr ⟨hk, hlt⟩
  objs := fun p hp => by cases hp
  okk := fun σ' _ ok => Ok_dat ok o.dst y
  near := fun _ _ k hk => by simp [AV.refs] at hk
end
end Go.Sim
/- What is proved: operations that make no memory and write none yield what a plain function of the abstract state tells. -/
namespace Go.Sim
open Go.RowKit
def slE (T : Tab) (t : TypeId) : Option (TypeId × TE) :=
  match tget T t with
  | some te => match te.d with
    | .slice e => match tget T e with | some ee => some (e, ee) | none => none
    | _ => none
  | none => none
/-- The constant nil as an empty slice. -/
def nilT (T : Tab) (t : TypeId) : AV → AV
  | .dat (.v (.slice none 0 0)) => match slE T t with | some (e, te) => .dat (.sl e te.size []) | none => .dead
  | x => x
def aggMatch (te : TE) (y : AV) : Bool := (te.d.agg == y.agg) && (!y.agg || Nat.beq te.size y.len)
def contentOf : Obj → Option AV
  | .box _ _ x => some x
  | .row _ sz xs => some (.dat (.ar sz xs))
  | .mp .. => none
  | .rr .. => none
  | .gone => none
def fieldOf (T : Tab) (s : TypeId) (i : Nat) : Option (Nat × TE) :=
  match tget T s with
  | some te => match te.d with
    | .struct fs => match fs[i]? with
      | some (fo, ft) => match tget T ft with | some fe => some (fo, fe) | none => none
      | none => none
    | _ => none
  | none => none
def fieldTy (T : Tab) (s : TypeId) (i : Nat) : TypeId :=
  match tget T s with
  | some te => match te.d with
    | .struct fs => match fs[i]? with | some (_, ft) => ft | none => 0
    | _ => 0
  | none => 0
def buildF (T : Tab) (s : TypeId) (σ : St) (ns : List Nat) : List (Nat × Operand) → List AV → Option (List AV)
  | [], xs => some xs
  | (i, x) :: ps, xs =>
    match fieldOf T s i, ns[i]?, xs[i]? with
    | some (fo, fe), some n, some _ =>
      let y := nilT T (fieldTy T s i) (ev σ x)
      if y.lies && Nat.beq y.len n && Nat.beq fe.size n && Nat.beq fo (ns.take i).sum then buildF T s σ ns ps (xs.set i y) else none
    | _, _, _ => none
def allDat : List AV → Option (List DV)
  | [] => some []
  | .dat x :: xs => match allDat xs with | some ds => some (x :: ds) | none => none
  | _ :: _ => none
def mkSt' (ns : List Nat) (xs : List AV) : AV := match allDat xs with | some ds => .dat (.st ns ds) | none => .st ns xs
def opBin (T : Tab) (op : BinOp) (t : TypeId) (u v : Value) : Option AV :=
  match rbin op u v with
  | some r => some (.dat (.v r))
  | none => match tget T t with
    | some te => match te.d with
      | .bool => match u, v, op with
        | .bool a, .bool b, .eql => some (.dat (.v (.bool (a == b))))
        | .bool a, .bool b, .neq => some (.dat (.v (.bool (a != b))))
        | _, _, _ => none
      | _ => none
    | none => none
def opFieldAddr (T : Tab) (s : TypeId) (x : AV) (i : Nat) : Option AV :=
  match fieldOf T s i with
  | some (fo, fe) => if Nat.beq fe.size 0 then none else match x with
    | .pt id p off => some (.pt id (p ++ [.fld i]) (off + fo))
    | .sp (.st ns xs) => match xs[i]? with
      | some y => if Nat.beq fo (ns.take i).sum then some (.sp y) else none
      | none => none
    | _ => none
  | none => none
def opField (T : Tab) (s : TypeId) (x : AV) (i : Nat) : Option AV :=
  match fieldOf T s i with
  | some (fo, fe) => match x with
    | .dat (.st ns xs) => match xs[i]? with
      | some y => if Nat.beq fo (ns.take i).sum && aggMatch fe (.dat y) then some (.dat y) else none
      | none => none
    | _ => none
  | none => none
def opBuild (T : Tab) (t : TypeId) (σ : St) (ps : List (Nat × Operand)) : Option AV :=
  match tget T t with
  | some te => match te.d, te.zero with
    | .struct fs, .st ns zs => if fs.all (fun f => (tget T f.2).isSome) then match buildF T t σ ns ps (zs.map .dat) with
      | some xs => some (mkSt' ns xs)
      | none => none
      else none
    | .arr _ e, z => match ps with | [] => if (tget T e).isSome then some (.dat z) else none | _ => none
    | _, _ => none
  | none => none
def opLoad (T : Tab) (t : TypeId) (x : AV) (ob : Nat → Option Obj) : Option AV :=
  match tget T t with
  | some te => match x with
    | .pt id p off => match ob id with
      | some o => match contentOf o with
        | some c => match locA c p 0 with
          | some (o', y) => if Nat.beq o' off && aggMatch te y then some y else none
          | none => none
        | none => none
      | none => none
    | .sp y => if aggMatch te (.dat y) then some (.dat y) else none
    | _ => none
  | none => none
def opLen (T : Tab) (t : TypeId) (x : AV) (ob : Nat → Option Obj) : Option AV :=
  match tget T t with
  | some te => match te.d with
    | .str => match x with | .dat (.v (.string s)) => some (.dat (.v (.int .i64 s.size))) | _ => none
    | .slice _ => match x with
      | .dat (.sl _ _ xs) => some (.dat (.v (.int .i64 xs.length)))
      | .oref id => match ob id with | some (.row _ _ xs) => some (.dat (.v (.int .i64 xs.length))) | some (.rr _ _ _ xss _) => some (.dat (.v (.int .i64 xss.length))) | _ => none
      | _ => none
    | .arr n _ => some (.dat (.v (.int .i64 n)))
    | _ => none
  | none => none
def opMin (x y : AV) : Option AV :=
  match x.raw, y.raw with
  | some (.int k a), some (.int _ b) => some (.dat (.v (.int k (if b < a then b else a))))
  | _, _ => none
def opMax (x y : AV) : Option AV :=
  match x.raw, y.raw with
  | some (.int k a), some (.int _ b) => some (.dat (.v (.int k (if b > a then b else a))))
  | _, _ => none
def opBuiltin (T : Tab) (σ : St) (b : Builtin) (args : List Operand) (ats : List TypeId) : Option AV :=
  match b with
  | .len => match args, ats with | [x], [t] => opLen T t (ev σ x) σ.obj | _, _ => none
  | .min => match args with | [x, y] => opMin (ev σ x) (ev σ y) | _ => none
  | .max => match args with | [x, y] => opMax (ev σ x) (ev σ y) | _ => none
  | _ => none
def opPick (c x y : AV) : Option AV :=
  match c with
  | .dat (.v (.bool b)) => match b with | true => some x | false => some y
  | _ => none
def opConv (T : Tab) (s d : TypeId) (u : Value) : Option AV :=
  match tget T s, tget T d with
  | some _, some te => match rconv te.d u with | some r => some (.dat (.v r)) | none => none
  | _, _ => none
def opV (T : Tab) (σ : St) (o : Oper) : Option AV :=
  match o.op with
  | .move x | .assign x => some (nilT T o.type (ev σ x))
  | .pick c x y => opPick (ev σ c) (ev σ x) (ev σ y)
  | .binOp op t x y _ => match (ev σ x).raw, (ev σ y).raw with
    | some u, some v => opBin T op t u v
    | _, _ => none
  | .unOp op _ x => match (ev σ x).raw with
    | some u => match runary op u with | some r => some (.dat (.v r)) | none => none
    | none => none
  | .convert s d x => match (ev σ x).raw with | some u => opConv T s d u | none => none
  | .fieldAddr s x i => opFieldAddr T s (ev σ x) i
  | .field s x i => opField T s (ev σ x) i
  | .extract x i => match ev σ x with
    | .dat (.tup xs) => match xs[i]? with | some y => some (.dat y) | none => none
    | _ => none
  | .build t ps => opBuild T t σ ps.toList
  | .nilCheck x => match ev σ x with
    | .pt id p off => some (.pt id p off)
    | .sp y => some (.sp y)
    | _ => none
  | .load t x => opLoad T t (ev σ x) σ.obj
  | .call c => match c.callee with
    | .builtin b => opBuiltin T σ b c.args.toList c.argTypes.toList
    | _ => none
  | _ => none
/-! ### It sees what the operation sees -/
theorem buildF_congr {T : Tab} {s : TypeId} {σ σ' : St} {ns : List Nat} : ∀ (ps : List (Nat × Operand)) (xs : List AV), (∀ p ∈ ps, ev σ' p.2 = ev σ p.2) → buildF T s σ' ns ps xs = buildF T s σ ns ps xs
  | [], _, _ => rfl
  | (i, x) :: ps, xs, h => by
    have h1 := h (i, x) (by simp)
    simp only at h1
    simp only [buildF, h1]
    split
    · split
      · exact buildF_congr ps _ (fun p hp => h p (by simp [hp]))
      · rfl
    · rfl
theorem opLoad_congr {T : Tab} {t : TypeId} {x : AV} {ob ob' : Nat → Option Obj} (h : ∀ k, x.refs k → ob' k = ob k) : opLoad T t x ob' = opLoad T t x ob := by
  unfold opLoad
  cases x with
  | pt id p off => simp only [h id (by simp [AV.refs])]
  | _ => rfl
theorem opLen_congr {T : Tab} {t : TypeId} {x : AV} {ob ob' : Nat → Option Obj} (h : ∀ k, x.refs k → ob' k = ob k) : opLen T t x ob' = opLen T t x ob := by
  unfold opLen
  cases x with
  | oref id => simp only [h id (by simp [AV.refs])]
  | dat y => cases y <;> rfl
  | _ => rfl
theorem opBuiltin_congr {T : Tab} {σ σ' : St} {b : Builtin} {ats : List TypeId} {args : List Operand} (h1 : ∀ x ∈ args, ev σ' x = ev σ x) (h2 : ∀ x ∈ args, ∀ k, (ev σ x).refs k → σ'.obj k = σ.obj k) :
    opBuiltin T σ' b args ats = opBuiltin T σ b args ats := by
  unfold opBuiltin
  cases b <;> first | rfl | skip
  · match args, ats with
    | [x], [t] => simp only; rw [h1 x (by simp)]; exact opLen_congr (h2 x (by simp))
    | [], _ => rfl
    | [x], [] => rfl
    | [x], _ :: _ :: _ => rfl
    | _ :: _ :: _, _ => rfl
  all_goals
    match args with
    | [x, y] => simp only; rw [h1 x (by simp), h1 y (by simp)]
    | [] => rfl
    | [_] => rfl
    | _ :: _ :: _ :: _ => rfl
theorem opV_congr {T : Tab} {σ σ' : St} {o : Oper} (h : Agree o σ σ') : opV T σ' o = opV T σ o := by
  obtain ⟨h1, _, h3⟩ := h
  unfold opV
  obtain ⟨dst, op, type, pos, after, guard⟩ := o
  cases op with
  | build t ps =>
    have hp : ∀ p ∈ ps.toList, ev σ' p.2 = ev σ p.2 := fun p hp => h1 p.2 (by simp only [Op.operands, List.mem_toArray, List.mem_map]; exact ⟨p, hp, rfl⟩)
    simp only [opBuild, buildF_congr _ _ hp]
  | load t x =>
    simp only [h1 x (by simp [Op.operands])]
    exact opLoad_congr (h3 rfl x (by simp [Op.operands]))
  | call c =>
    obtain ⟨callee, args, ats⟩ := c
    cases callee with
    | builtin b =>
      exact opBuiltin_congr (fun x hx => h1 x (by simp [Op.operands, Call.operands]; simpa using hx)) (fun x hx => h3 rfl x (by simp [Op.operands, Call.operands]; simpa using hx))
    | _ => rfl
  | move x => simp only [h1 x (by simp [Op.operands])]
  | assign x => simp only [h1 x (by simp [Op.operands])]
  | pick c x y => simp only [h1 c (by simp [Op.operands]), h1 x (by simp [Op.operands]), h1 y (by simp [Op.operands])]
  | binOp op t x y t' => simp only [h1 x (by simp [Op.operands]), h1 y (by simp [Op.operands])]
  | unOp op t x => simp only [h1 x (by simp [Op.operands])]
  | convert s d x => simp only [h1 x (by simp [Op.operands])]
  | fieldAddr s x i => simp only [h1 x (by simp [Op.operands])]
  | field s x i => simp only [h1 x (by simp [Op.operands])]
  | extract x i => simp only [h1 x (by simp [Op.operands])]
  | nilCheck x => simp only [h1 x (by simp [Op.operands])]
  | _ => rfl
end Go.Sim
/- What is proved: those operations, run, yield values that hold what the plain function tells. -/
namespace Go.Sim
open Go.RowKit
section
variable {P : Program} {N : Value → Prop} {T : Tab} {B : Nat → Nat → Prop} {F : Cx} {w0 w : World} {n : Nat} {σ : St} {a : Act} {g : Gh}
theorem slE_ok (hT : TabOk P T) {t e : TypeId} {te : TE} (h : slE T t = some (e, te)) : P.underlying t = some (.slice e) ∧ EntryOk P e te ∧ tget T e = some te := by
  unfold slE at h
  split at h
  · rename_i tt htt
    split at h
    · rename_i e' hd
      split at h
      · rename_i ee hee
        simp only [Option.some.injEq, Prod.mk.injEq] at h
        obtain ⟨rfl, rfl⟩ := h
        obtain ⟨i, d, z, h1, h2, h3, _⟩ := hT t tt htt
        rw [hd] at h3
        cases d <;> simp only [TyD.ok] at h3
        subst h3
        exact ⟨h2, hT _ _ hee, hee⟩
      · cases h
    · cases h
  · cases h
theorem nilT_rep {t : TypeId} {x : AV} {u : Value} (h : RepS w g x u) : RepS w g (nilT T t x) u := by
  unfold nilT
  split
  · split
    · rename_i e te hs
      have := raw_eval h rfl
      subst this
      simp only [RepS, RepV, RepD]
      exact ⟨none, 0, [], rfl, by simp, by simp [RepF], .inl rfl⟩
    · trivial
  · exact h
theorem nilT_refs {t : TypeId} {x : AV} {k : Nat} (h : (nilT T t x).refs k) : x.refs k := by
  unfold nilT at h
  split at h
  · split at h <;> simp [AV.refs] at h
  · exact h
theorem fieldOf_ok (hT : TabOk P T) {s : TypeId} {i fo : Nat} {fe : TE} (h : fieldOf T s i = some (fo, fe)) :
    ∃ (gs : Array Field) (f : Field), P.underlying s = some (.struct gs) ∧ gs[i]? = some f ∧ f.offset = fo ∧ f.type = fieldTy T s i ∧ EntryOk P f.type fe := by
  unfold fieldOf at h
  split at h
  · rename_i te hte
    split at h
    · rename_i fs hd
      split at h
      · rename_i fo' ft hf
        split at h
        · rename_i fe' hfe
          simp only [Option.some.injEq, Prod.mk.injEq] at h
          obtain ⟨rfl, rfl⟩ := h
          obtain ⟨j, d, z, h1, h2, h3, _⟩ := hT s te hte
          rw [hd] at h3
          cases d with
          | struct gs =>
            simp only [TyD.ok] at h3
            subst h3
            simp only [List.getElem?_map, Option.map_eq_some_iff, Prod.mk.injEq] at hf
            obtain ⟨f, hf1, hf2, hf3⟩ := hf
            refine ⟨gs, f, h2, by simpa using hf1, hf2, ?_, by rw [hf3]; exact hT _ _ hfe⟩
            unfold fieldTy
            simp only [hte, hd, List.getElem?_map]
            rw [hf1]
            rfl
          | _ => simp [TyD.ok] at h3
        · cases h
      · cases h
    · cases h
  · cases h
theorem opBin_run (hT : TabOk P T) {op : BinOp} {t : TypeId} {u v : Value} {x : AV} (h : opBin T op t u v = some x) (xo yo : Operand) :
    ∃ r, (do eqGuard op t xo yo u v; binOp op t u v).run P w = .ok r w ∧ RepS w g x r ∧ ∀ k, ¬ x.refs k := by
  unfold opBin at h
  split at h
  · rename_i r hr
    simp only [Option.some.injEq] at h
    subst h
    have h1 : r.oneCell' = true := by
      cases u <;> cases v <;> first
        | (simp [rbin] at hr; done)
        | (cases op <;> simp only [rbin] at hr <;> (repeat' split at hr) <;> first | (cases hr; done) | (simp only [Option.some.injEq] at hr; subst hr; rfl))
    exact ⟨r, by rw [eqGuard_raw hr]; simpa using run_rbin hr w, by simp [RepS, RepV, RepD, h1], fun k hk => by simp [AV.refs] at hk⟩
  · split at h
    · rename_i te hte
      split at h
      · rename_i hd
        obtain ⟨i, d, z, _, hu, hok, _⟩ := hT t te hte
        rw [hd] at hok
        cases d <;> simp only [TyD.ok] at hok
        cases u <;> first | (cases h; done) | skip
        cases v <;> first | (cases h; done) | skip
        rename_i a b hnone
        cases op <;> first | (cases h; done) | skip
        · simp only [Option.some.injEq] at h
          subst h
          exact ⟨.bool (a == b), by rw [eqGuard_at_bool]; simp only [Sem.run_bind, Sem.run_pure, Result.andThen_ok]; exact run_eql_bool w t a b hu, by simp [RepS, RepV, RepD, Value.oneCell'], fun k hk => by simp [AV.refs] at hk⟩
        · simp only [Option.some.injEq] at h
          subst h
          exact ⟨.bool (a != b), by rw [eqGuard_at_bool]; simp only [Sem.run_bind, Sem.run_pure, Result.andThen_ok]; exact run_neq_bool w t a b hu, by simp [RepS, RepV, RepD, Value.oneCell'], fun k hk => by simp [AV.refs] at hk⟩
      · cases h
    · cases h
theorem opFieldAddr_run (hT : TabOk P T) {s : TypeId} {i : Nat} {x y : AV} {u : Value} (hx : RepS w g x u) (h : opFieldAddr T s x i = some y) :
    ∃ r, (Instr.fieldAt s u i).run P w = .ok r w ∧ RepS w g y r ∧ ∀ k, y.refs k → x.refs k := by
  unfold opFieldAddr at h
  split at h
  · rename_i fo fe hf
    split at h
    · cases h
    · rename_i hsz
      obtain ⟨gs, f, hu, hgi, rfl, hty, hE⟩ := fieldOf_ok hT hf
      have hsize : fe.size ≠ 0 := fun e => hsz (by rw [e]; rfl)
      have run : ∀ b o, (Instr.fieldAt s (.pointer (some ⟨b, o, none⟩)) i).run P w = .ok (.pointer (some ⟨b, o + f.offset, none⟩)) w := by
        intro b o
        have hsz' := run_sizeOf hE w
        simp [Instr.fieldAt, run_underlying hu, hgi, Instr.sureAddr, fieldPlace, hsz', hsize, addr_add]
      split at h
      · rename_i id p off
        simp only [Option.some.injEq] at h
        subst h
        simp only [RepS] at hx
        subst hx
        exact ⟨_, run _ _, rfl, fun k hk => hk⟩
      · rename_i ns xs
        split at h
        · rename_i z hz
          split at h
          · rename_i hfo
            simp only [Option.some.injEq] at h
            subst h
            simp only [RepS, RepA] at hx
            obtain ⟨b, o, ds, e, hd, hm⟩ := hx
            simp only [List.cons.injEq, and_true] at e
            subst e
            refine ⟨_, run b o, ?_, fun k hk => hk⟩
            obtain ⟨c1, c2, c3, m, hm1, e, hl1, hl2, hd2, _⟩ := RepF.at hd hz
            have hoff := Nat.eq_of_beq_eq_true hfo
            simp only [RepS, RepA]
            refine ⟨b, o + f.offset, c2, rfl, hd2, ?_⟩
            rcases hm with rfl | ⟨hS, hc⟩
            · left
              have := congrArg List.length e
              simp at this
              exact List.eq_nil_of_length_eq_zero (by omega)
            · refine .inr ⟨hS, fun j v hj => ?_⟩
              have := hc (f.offset + j) v (by
                rw [e, hoff, ← hl1, List.append_assoc, List.getElem?_append_right (by omega), Nat.add_sub_cancel_left]
                rw [List.getElem?_append_left (List.getElem?_eq_some_iff.1 hj).1]; exact hj)
              rwa [← Nat.add_assoc] at this
          · cases h
        · cases h
      · cases h
  · cases h
theorem aggMatch_spec {te : TE} {y : AV} (h : aggMatch te y = true) : te.d.agg = y.agg ∧ (y.agg = true → te.size = y.len) := by
  unfold aggMatch at h
  simp only [Bool.and_eq_true, beq_iff_eq, Bool.or_eq_true, Bool.not_eq_true'] at h
  refine ⟨h.1, fun hy => ?_⟩
  rcases h.2 with h2 | h2
  · rw [hy] at h2; cases h2
  · exact Nat.eq_of_beq_eq_true h2
theorem run_part {t : TypeId} {te : TE} (h : EntryOk P t te) {y : AV} {c1 c2 c3 : List Value} (hy : RepA w g y c2) (hm : aggMatch te y = true) :
    ∃ r, (part t (c1 ++ c2 ++ c3).toArray c1.length).run P w = .ok r w ∧ RepS w g y r := by
  obtain ⟨ha, hs⟩ := aggMatch_spec hm
  have hag := run_isAgg h w
  have hsz := run_sizeOf h w
  unfold part
  rcases RepA.toS hy with ⟨h1, h2⟩ | ⟨h1, u, rfl, h2⟩
  · refine ⟨_, ?_, h2⟩
    have hl : c2.length = te.size := by rw [hs h1]; exact RepA.len hy
    simp [hag, ha, h1, hsz]
    rw [← hl]
    apply List.ext_getElem?
    intro i
    simp
  · refine ⟨u, ?_, h2⟩
    simp [hag, ha, h1]
theorem opField_run (hT : TabOk P T) {s : TypeId} {i : Nat} {x y : AV} {u : Value} (hx : RepS w g x u) (h : opField T s x i = some y) :
    ∃ r, (Instr.field s u i).run P w = .ok r w ∧ RepS w g y r ∧ ∀ k, ¬ y.refs k := by
  unfold opField at h
  split at h
  · rename_i fo fe hf
    split at h
    · rename_i ns xs
      split at h
      · rename_i z hz
        split at h
        · rename_i hc
          simp only [Bool.and_eq_true] at hc
          simp only [Option.some.injEq] at h
          subst h
          obtain ⟨gs, f, hu, hgi, rfl, hty, hE⟩ := fieldOf_ok hT hf
          obtain ⟨cs, rfl, hd⟩ := hx
          simp only [RepD] at hd
          obtain ⟨c1, c2, c3, m, hm1, rfl, hl1, hl2, hd2, _⟩ := RepF.at hd hz
          have hoff := Nat.eq_of_beq_eq_true hc.1
          obtain ⟨r, hr, hrep⟩ := run_part (w := w) (g := g) hE (y := .dat z) (c1 := c1) (c3 := c3) hd2 hc.2
          rw [hl1, ← hoff] at hr
          exact ⟨r, by simp [Instr.field, run_underlying hu, hgi, asAgg] at hr ⊢; exact hr, hrep, fun k hk => by simp [AV.refs] at hk⟩
        · cases h
      · cases h
    · cases h
  · cases h
end
end Go.Sim
/- What is proved: a struct that is built, and what is loaded, holds what the plain function tells. -/
namespace Go.Sim
open Go.RowKit
section
variable {P : Program} {N : Value → Prop} {T : Tab} {B : Nat → Nat → Prop} {F : Cx} {w0 w : World} {n : Nat} {σ : St} {a : Act} {g : Gh}
theorem run_places : ∀ (l : List Field), (∀ f ∈ l, ∃ te, EntryOk P f.type te) →
    ∃ ps : List (Nat × Nat), (l.mapM fun f => (do pure (f.offset, ← sizeOf f.type) : Sem (Nat × Nat))).run P w = .ok ps w ∧ ∀ (i : Nat) (f : Field) (te : TE), l[i]? = some f → EntryOk P f.type te → ps[i]? = some (f.offset, te.size)
  | [], _ => ⟨[], rfl, fun i f te h => by simp at h⟩
  | f :: l, h => by
    obtain ⟨te, hte⟩ := h f (by simp)
    obtain ⟨ps, h1, h2⟩ := run_places l (fun f hf => h f (by simp [hf]))
    refine ⟨(f.offset, te.size) :: ps, by rw [List.mapM_cons, Sem.run_bind, Sem.run_bind, run_sizeOf hte, Result.andThen_ok, Sem.run_pure, Result.andThen_ok, Sem.run_bind, h1]; rfl, ?_⟩
    intro i f' te' hi hE
    cases i with
    | zero =>
      simp only [List.getElem?_cons_zero, Option.some.injEq] at hi
      subst hi
      obtain ⟨i1, d1, z1, a1, a2, a3, a4, _⟩ := hte
      obtain ⟨i2, d2, z2, b1, b2, b3, b4, _⟩ := hE
      rw [a1] at b1
      cases b1
      simp [← a4, ← b4]
    | succ i => simp only [List.getElem?_cons_succ] at hi ⊢; exact h2 i f' te' hi hE
theorem foldl_set : ∀ (vs : List Value) (off k : Nat) (cs : Array Value), off + k + vs.length ≤ cs.size →
    ((vs.zipIdx k).foldl (fun cs (p : Value × Nat) => cs.setIfInBounds (off + p.2) p.1) cs).toList = cs.toList.take (off + k) ++ vs ++ cs.toList.drop (off + k + vs.length)
  | [], off, k, cs, _ => by simp
  | v :: vs, off, k, cs, h => by
    simp only [List.length_cons] at h
    simp only [List.zipIdx_cons, List.foldl_cons]
    rw [foldl_set vs off (k + 1) _ (by simp; omega)]
    have hlt : off + k < cs.toList.length := by simp; omega
    have hA : (cs.toList.take (off + k)).length = off + k := by simp; omega
    have hset : (cs.setIfInBounds (off + k) v).toList = cs.toList.take (off + k) ++ v :: cs.toList.drop (off + k + 1) := by
      rw [Array.toList_setIfInBounds, List.set_eq_take_append_cons_drop, if_pos hlt]
    rw [hset]
    have e1 : (cs.toList.take (off + k) ++ v :: cs.toList.drop (off + k + 1)).take (off + (k + 1)) = cs.toList.take (off + k) ++ [v] := by
      rw [List.take_append, hA, List.take_of_length_le (by omega), show off + (k + 1) - (off + k) = 1 by omega]
      rfl
    have e2 : (cs.toList.take (off + k) ++ v :: cs.toList.drop (off + k + 1)).drop (off + (k + 1) + vs.length) = cs.toList.drop (off + k + (vs.length + 1)) := by
      rw [List.drop_append, hA, List.drop_eq_nil_of_le (by omega), show off + (k + 1) + vs.length - (off + k) = vs.length + 1 by omega]
      simp only [List.nil_append, List.drop_succ_cons, List.drop_drop]
      congr 1
      omega
    rw [e1, e2]
    simp
theorem buildF_run (hT : TabOk P T) (r : RelG B F w0 n σ a w g) {t : TypeId} {ns : List Nat} {gs : Array Field} (hu : P.underlying t = some (.struct gs)) {places : List (Nat × Nat)}
    (hp : ∀ (i : Nat) (f : Field) (te : TE), gs.toList[i]? = some f → EntryOk P f.type te → places[i]? = some (f.offset, te.size)) :
    ∀ (ps : List (Nat × Operand)) (xs ys : List AV) (cells : Array Value), RepAF w g xs ns cells.toList → buildF T t σ ns ps xs = some ys →
      ∃ cells', Instr.fill (places.toArray[·]?) cells (ps.map fun p => (p.1, a.eval p.2)) = some cells' ∧ RepAF w g ys ns cells'.toList ∧ ∀ k, AV.refs.refsL ys k → AV.refs.refsL xs k ∨ σ.obj k ≠ none
  | [], xs, ys, cells, h, hb => by simp only [buildF, Option.some.injEq] at hb; subst hb; exact ⟨cells, rfl, h, fun k hk => .inl hk⟩
  | (i, x) :: ps, xs, ys, cells, h, hb => by
    simp only [buildF] at hb
    split at hb
    · rename_i fo fe m z hf hn hz
      split at hb
      · rename_i hc
        simp only [Bool.and_eq_true] at hc
        obtain ⟨⟨⟨c1, c2⟩, c3⟩, c4⟩ := hc
        have c2 := Nat.eq_of_beq_eq_true c2
        have c3 := Nat.eq_of_beq_eq_true c3
        have c4 := Nat.eq_of_beq_eq_true c4
        obtain ⟨gs', f, hu', hgi, rfl, hty, hE⟩ := fieldOf_ok hT hf
        rw [hu] at hu'
        cases hu'
        have hpl := hp i f fe (by simpa using hgi) hE
        have hS := nilT_rep (T := T) (t := fieldTy T t i) (ev_rep r x)
        obtain ⟨hcells, _, _⟩ := RepS.cells r.hv hS c1
        have hlen := RepA.len hcells
        obtain ⟨d1, d2, d3, m', hm', e, hl1, hl2, hd, hput⟩ := RepAF.at h hz
        rw [hn] at hm'
        cases hm'
        have hsz : (a.eval x).cells.size = fe.size := by rw [c3, ← c2, ← hlen]; simp
        have hfit : f.offset + (a.eval x).cells.size ≤ cells.size := by
          have := congrArg List.length e
          simp at this
          rw [this, hl1, c4, hsz, c3, hl2]
          omega
        have hset := foldl_set (a.eval x).cells.toList f.offset 0 cells (by simpa using hfit)
        simp only [Nat.add_zero, Array.length_toList] at hset
        have hnew : RepAF w g (xs.set i (nilT T (fieldTy T t i) (ev σ x))) ns (((a.eval x).cells.toList.zipIdx 0).foldl (fun cs (p : Value × Nat) => cs.setIfInBounds (f.offset + p.2) p.1) cells).toList := by
          rw [hset]
          have := hput (fun _ => True) w g _ (a.eval x).cells.toList (fun _ _ => trivial) (fun _ _ _ h => h) (by simp [hsz, c3]) hcells
          rw [e]
          rw [show (d1 ++ d2 ++ d3).take f.offset = d1 by rw [c4, ← hl1, List.append_assoc]; simp]
          rw [show (d1 ++ d2 ++ d3).drop (f.offset + (a.eval x).cells.size) = d3 by rw [c4, ← hl1, hsz, c3, ← hl2, ← List.length_append]; simp]
          exact this
        obtain ⟨cells', h1, h2, h3⟩ := buildF_run hT r hu hp ps _ ys _ hnew hb
        refine ⟨cells', ?_, h2, fun k hk => ?_⟩
        · simp only [List.map_cons, Instr.fill]
          have : places.toArray[i]? = some (f.offset, fe.size) := by simpa using hpl
          rw [this]
          simp only
          rw [if_neg (by simp only [Bool.or_eq_true, decide_eq_true_eq, not_or]; exact ⟨by simpa using hsz, by omega⟩)]
          have hz : (a.eval x).cells.zipIdx.foldl (fun cs (x : Value × Nat) => match x with | (c, j) => cs.setIfInBounds (f.offset + j) c) cells = ((a.eval x).cells.toList.zipIdx 0).foldl (fun cs (p : Value × Nat) => cs.setIfInBounds (f.offset + p.2) p.1) cells := by
            rw [← Array.foldl_toList, Array.toList_zipIdx]
          rw [hz]
          exact h1
        · rcases h3 k hk with h | h
          · rcases refsL_set h with h | h
            · exact .inl h
            · refine .inr ?_
              have := nilT_refs h
              cases x with
              | tmp t => exact r.ok.1 t k this
              | const v => simp only [ev] at this; split at this <;> simp [AV.refs] at this
              | global v => simp [ev, AV.refs] at this
              | func v => simp [ev, AV.refs] at this
          · exact .inr h
      · cases hb
    · cases hb
theorem allDat_spec : ∀ {xs : List AV} {ds : List DV}, allDat xs = some ds → xs = ds.map .dat
  | [], ds, h => by simp only [allDat, Option.some.injEq] at h; subst h; rfl
  | .dat x :: xs, ds, h => by
    simp only [allDat] at h
    split at h
    · rename_i ds' hd
      simp only [Option.some.injEq] at h
      subst h
      rw [allDat_spec hd]; rfl
    · cases h
  | .st .. :: _, ds, h => by simp [allDat] at h
  | .oref _ :: _, ds, h => by simp [allDat] at h
  | .pt .. :: _, ds, h => by simp [allDat] at h
  | .fb .. :: _, ds, h => by simp [allDat] at h
  | .vw .. :: _, ds, h => by simp [allDat] at h
  | .sp _ :: _, ds, h => by simp [allDat] at h
  | .dead :: _, ds, h => by simp [allDat] at h
theorem RepAF.to_F : ∀ {ys : List DV} {ns : List Nat} {cs : List Value}, RepAF w g (ys.map .dat) ns cs → RepF w g.S ys ns cs
  | [], _, _, h => by simpa only [RepF, RepAF, List.map_nil] using h
  | y :: ys, ns, cs, h => by
    simp only [List.map_cons, RepAF, RepF, RepA] at h ⊢
    obtain ⟨n, ns', c1, c2, e1, e2, e3, h1, h2⟩ := h
    exact ⟨n, ns', c1, c2, e1, e2, e3, h1, RepAF.to_F h2⟩
theorem mkSt'_rep {ns : List Nat} {xs : List AV} {cells : Array Value} (h : RepAF w g xs ns cells.toList) : RepS w g (mkSt' ns xs) (.agg cells) := by
  unfold mkSt'
  split
  · rename_i ds hd
    rw [allDat_spec hd] at h
    exact ⟨cells.toList, by simp, by simp only [RepD]; exact RepAF.to_F h⟩
  · exact ⟨cells.toList, by simp, by simp only [RepA]; exact h⟩
theorem refsL_map_dat : ∀ (zs : List DV) (k : Nat), ¬ AV.refs.refsL (zs.map .dat) k
  | [], _, h => by simp [AV.refs.refsL] at h
  | z :: zs, k, h => by simp only [List.map_cons, AV.refs.refsL, AV.refs, false_or] at h; exact refsL_map_dat zs k h
theorem opBuild_run (hT : TabOk P T) (r : RelG B F w0 n σ a w g) {t : TypeId} {ps : Array (Nat × Operand)} {y : AV} (h : opBuild T t σ ps.toList = some y) :
    ∃ u, (Instr.build t (ps.map fun (i, x) => (i, a.eval x))).run P w = .ok u w ∧ RepS w g y u ∧ ∀ k, y.refs k → σ.obj k ≠ none := by
  unfold opBuild at h
  split at h
  · rename_i te hte
    have hE := hT t te hte
    obtain ⟨z, hz, hzU, hzs, hzl⟩ := run_zero hE w g.S
    have hE' := hE
    obtain ⟨i, d, z', q1, q2, q3, _⟩ := hE
    split at h
    · rename_i fs ns zs hd hzero
      split at h
      · rename_i hall
        split at h
        · rename_i xs hb
          simp only [Option.some.injEq] at h
          subst h
          rw [hd] at q3
          cases d <;> simp only [TyD.ok] at q3
          rename_i gs
          obtain ⟨places, hp1, hp2⟩ := run_places (P := P) (w := w) gs.toList (fun f hf => by
            rw [← q3] at hall
            simp only [List.all_eq_true, List.mem_map] at hall
            have := hall _ ⟨f, hf, rfl⟩
            obtain ⟨fe, hfe⟩ := Option.isSome_iff_exists.1 this
            exact ⟨fe, hT _ _ hfe⟩)
          have hz0 : RepAF w g (zs.map .dat) ns z.cells.toList := by
            have := hzU.cells
            rw [hzero] at this
            exact RepAF.of_F this
          obtain ⟨cells', h1, h2, h3⟩ := buildF_run hT r q2 hp2 ps.toList _ xs z.cells hz0 hb
          refine ⟨.agg cells', ?_, mkSt'_rep h2, fun k hk => ?_⟩
          · have e : (gs.mapM fun f => (do pure (f.offset, ← sizeOf f.type) : Sem (Nat × Nat))).run P w = .ok places.toArray w := by
              have e' : gs = gs.toList.toArray := by simp
              rw [e', List.mapM_toArray, Sem.run_map, hp1]
              rfl
            have e2 : (ps.map fun (x : Nat × Operand) => (x.1, a.eval x.2)).toList = ps.toList.map fun p => (p.1, a.eval p.2) := by simp
            simp only [Instr.build, Sem.run_bind, hz, Result.andThen_ok, run_underlying q2, e, e2, h1, Sem.run_pure]
          · unfold mkSt' at hk
            split at hk
            · simp [AV.refs] at hk
            · simp only [AV.refs] at hk
              exact (h3 k hk).resolve_left (refsL_map_dat zs k)
        · cases h
      · cases h
    · rename_i m e zz hd
      split at h
      · rename_i hps
        split at h
        rotate_left
        · cases h
        rename_i hsome
        simp only [Option.some.injEq] at h
        subst h
        rw [hd] at q3
        cases d <;> simp only [TyD.ok] at q3
        rename_i m' e'
        obtain ⟨rfl, rfl⟩ := q3
        have hps' : ps = #[] := by
          apply Array.ext'
          simpa using hps
        subst hps'
        refine ⟨.agg z.cells, ?_, ?_, fun k hk => by simp [AV.refs] at hk⟩
        · have hsz := run_sizeOf (hT _ _ (Option.some_get hsome).symm) w
          simp only [Instr.build, Sem.run_bind, hz, Result.andThen_ok, run_underlying q2, hsz]
          simp [Instr.fill]
        · have hag : te.zero.agg = true := by
            obtain ⟨_, _, _, _, _, _, _, _, _, _, k8, _⟩ := hE'
            rw [k8, hd]; rfl
          rcases hzU with ⟨_, cs, rfl, hh⟩ | ⟨hh, _⟩
          · exact RepU.v (.inl ⟨hag, cs, by simp [Value.cells], hh⟩)
          · rw [hag] at hh; cases hh
      · cases h
    · cases h
  · cases h
end
end Go.Sim
/- What is proved: the step rule for operations that make no memory and write none. -/
namespace Go.Sim
open Go.RowKit
section
variable {P : Program} {N : Value → Prop} {T : Tab} {B : Nat → Nat → Prop} {F : Cx} {w0 w : World} {n : Nat} {σ : St} {a : Act} {g : Gh}
theorem ev_refs (ok : σ.Ok) (x : Operand) (k : Nat) (h : (ev σ x).refs k) : σ.obj k ≠ none := by
  cases x with
  | tmp t => exact ok.1 t k h
  | const v => simp only [ev] at h; split at h <;> simp [AV.refs] at h
  | global v => simp [ev, AV.refs] at h
  | func v => simp [ev, AV.refs] at h
/-- What is read at a place of an object lies in its block. -/
theorem content_cells (r : RelG B F w0 n σ a w g) {id : Nat} {o : Obj} {c y : AV} {p : List Pa} {off : Nat} (ho : σ.obj id = some o) (hc : contentOf o = some c) (hl : locA c p 0 = some (off, y)) :
    ∃ cs, RepA w g y cs ∧ (∀ j u, cs[j]? = some u → w.cell? ⟨g.blk id, off + j, none⟩ = some u) ∧ ∀ k, y.refs k → σ.obj k ≠ none := by
  have hO := r.objs id
  rw [ho] at hO
  cases o with
  | gone => simp [contentOf] at hc
  | mp ks xs => simp [contentOf] at hc
  | rr T' E' sz xss hs => simp [contentOf] at hc
  | box T' sz x =>
    simp only [contentOf, Option.some.injEq] at hc
    subst hc
    simp only [RepO] at hO
    obtain ⟨h1, cur, h2, h3, h4⟩ := hO
    obtain ⟨c1, c2, c3, e, ho', hd, hrf, _⟩ := RepA.loc p x _ 0 off y h4 hl
    refine ⟨c2, hd, fun j u hj => ?_, fun k hk => r.ok.2.1 id T' sz x ho k (hrf k hk)⟩
    rw [cell_of_row w _ _ cur T' (0, 0) h2]
    have : cur.toList[off + j]? = some u := by
      rw [e, ho', Nat.zero_add, List.append_assoc, List.getElem?_append_right (by omega), Nat.add_sub_cancel_left, List.getElem?_append_left (List.getElem?_eq_some_iff.1 hj).1]
      exact hj
    simpa using this
  | row E sz xs =>
    simp only [contentOf, Option.some.injEq] at hc
    subst hc
    simp only [RepO] at hO
    rcases hO with ⟨m1, rfl, m3⟩ | ⟨m1, c, cur, m2, m3, m4, m5, m6, m7⟩
    · have hz : RepA w g (.dat (.ar sz [])) [] := by simp only [RepA, RepD]; simp [RepF]
      obtain ⟨c1, c2, c3, e, ho', hd, hrf, _⟩ := RepA.loc p _ _ 0 off y hz hl
      have hc2 : c2 = [] := by
        have := congrArg List.length e
        simp at this
        exact List.eq_nil_of_length_eq_zero (by omega)
      subst hc2
      exact ⟨[], hd, fun j u hj => by simp at hj, fun k hk => by have := hrf k hk; simp [AV.refs] at this⟩
    · have hz : RepA w g (.dat (.ar sz xs)) (cur.toList.take (xs.length * sz)) := by simp only [RepA, RepD]; exact m7
      obtain ⟨c1, c2, c3, e, ho', hd, hrf, _⟩ := RepA.loc p _ _ 0 off y hz hl
      refine ⟨c2, hd, fun j u hj => ?_, fun k hk => by have := hrf k hk; simp [AV.refs] at this⟩
      rw [cell_of_row w _ _ cur E (0, 0) m3]
      have : (cur.toList.take (xs.length * sz))[off + j]? = some u := by
        rw [e, ho', Nat.zero_add, List.append_assoc, List.getElem?_append_right (by omega), Nat.add_sub_cancel_left, List.getElem?_append_left (List.getElem?_eq_some_iff.1 hj).1]
        exact hj
      rw [List.getElem?_take] at this
      split at this
      · simpa using this
      · cases this
theorem opLoad_run (hT : TabOk P T) (r : RelG B F w0 n σ a w g) {t : TypeId} {x y : AV} {v : Value} (hx : RepS w g x v) (h : opLoad T t x σ.obj = some y) :
    ∃ u, (Instr.loadAt t v).run P w = .ok u w ∧ RepS w g y u ∧ ∀ k, y.refs k → σ.obj k ≠ none := by
  unfold opLoad at h
  split at h
  · rename_i te hte
    have hE := hT t te hte
    split at h
    · rename_i id p off
      split at h
      · rename_i o ho
        split at h
        · rename_i c hc
          split at h
          · rename_i o' z hl
            split at h
            · rename_i hcond
              simp only [Bool.and_eq_true] at hcond
              simp only [Option.some.injEq] at h
              subst h
              have := Nat.eq_of_beq_eq_true hcond.1
              subst this
              obtain ⟨cs, h1, h2, h3⟩ := content_cells r ho hc hl
              obtain ⟨m1, m2⟩ := aggMatch_spec hcond.2
              simp only [RepS] at hx
              subst hx
              obtain ⟨u, hu, hrep⟩ := run_load_at hE h1 h2 m1 m2
              exact ⟨u, hu, hrep, h3⟩
            · cases h
          · cases h
        · cases h
      · cases h
    · rename_i d
      split at h
      · rename_i hcond
        simp only [Option.some.injEq] at h
        subst h
        obtain ⟨m1, m2⟩ := aggMatch_spec hcond
        simp only [RepS, RepA] at hx
        obtain ⟨b, o, ds, e, hd, hm⟩ := hx
        simp only [List.cons.injEq, and_true] at e
        subst e
        rcases hm with rfl | ⟨hS, hc⟩
        · obtain ⟨u, hu, hrep⟩ := run_load_at hE (w := w) (g := g) (y := .dat d) (cs := []) (b := b) (o := o) hd (fun j u hj => by simp at hj) m1 m2
          exact ⟨u, hu, hrep, fun k hk => by simp [AV.refs] at hk⟩
        · obtain ⟨u, hu, hrep⟩ := run_load_at hE (w := w) (g := g) (y := .dat d) (cs := ds) (b := b) (o := o) hd hc m1 m2
          exact ⟨u, hu, hrep, fun k hk => by simp [AV.refs] at hk⟩
      · cases h
    · cases h
  · cases h
theorem rep_int (k : IntKind) (m : Int) : RepS w g (.dat (.v (.int k m))) (.int k m) := by simp [RepS, RepV, RepD, Value.oneCell']
theorem opLen_run (hT : TabOk P T) (r : RelG B F w0 n σ a w g) (ty : TypeId) {t : TypeId} {x y : AV} {v : Value} (hx : RepS w g x v) (h : opLen T t x σ.obj = some y) :
    ∃ u, (Builtin.len_ #[t] ty #[v]).run P w = .ok u w ∧ RepS w g y u ∧ ∀ k, ¬ y.refs k := by
  unfold opLen at h
  split at h
  · rename_i te hte
    obtain ⟨i, d, z, q1, q2, q3, _⟩ := hT t te hte
    split at h
    · rename_i hd
      rw [hd] at q3
      cases d <;> simp only [TyD.ok] at q3
      split at h
      · rename_i s
        simp only [Option.some.injEq] at h
        subst h
        have := raw_eval hx rfl
        subst this
        exact ⟨_, by simp [Builtin.len_, run_underlying q2, goInt], rep_int _ _, fun k hk => by simp [AV.refs] at hk⟩
      · cases h
    · rename_i e hd
      rw [hd] at q3
      cases d <;> simp only [TyD.ok] at q3
      split at h
      · rename_i E sz xs
        simp only [Option.some.injEq] at h
        subst h
        simp only [RepS, RepV, RepD] at hx
        obtain ⟨ad, c, row, e, _⟩ := hx
        simp only [List.cons.injEq, and_true] at e
        subst e
        exact ⟨_, by simp [Builtin.len_, run_underlying q2, goInt], rep_int _ _, fun k hk => by simp [AV.refs] at hk⟩
      · rename_i id
        split at h
        · rename_i E sz xs ho
          simp only [Option.some.injEq] at h
          subst h
          simp only [RepS] at hx
          subst hx
          have hO := r.objs id
          rw [ho] at hO
          simp only [RepO] at hO
          refine ⟨.int .i64 xs.length, ?_, rep_int _ _, fun k hk => by simp [AV.refs] at hk⟩
          rcases hO with ⟨m1, rfl, m3⟩ | ⟨m1, c, cur, m2, _⟩
          · rw [m3]; simp [Builtin.len_, run_underlying q2, goInt]
          · rw [m2]; simp [Builtin.len_, run_underlying q2, goInt]
        · rename_i T0 E0 sz0 xss0 hs0 ho
          simp only [Option.some.injEq] at h
          subst h
          simp only [RepS] at hx
          subst hx
          have hO := r.objs id
          rw [ho] at hO
          simp only [RepO] at hO
          refine ⟨.int .i64 xss0.length, ?_, rep_int _ _, fun k hk => by simp [AV.refs] at hk⟩
          obtain ⟨m1, c, cur, m2, _⟩ := hO
          rw [m2]; simp [Builtin.len_, run_underlying q2, goInt]
        · cases h
      · cases h
    · rename_i m e hd
      rw [hd] at q3
      cases d <;> simp only [TyD.ok] at q3
      obtain ⟨rfl, rfl⟩ := q3
      simp only [Option.some.injEq] at h
      subst h
      exact ⟨_, by simp [Builtin.len_, run_underlying q2, goInt], rep_int _ _, fun k hk => by simp [AV.refs] at hk⟩
    · cases h
  · cases h
/-- What a step rule of plain values asks. -/
theorem Step.value {c : Bool} {o : Oper} {x : AV} (h : ∀ σ', Agree o σ σ' → ∀ (B : Nat → Nat → Prop) (F : Cx) (w0 : World) (n : Nat) (a : Act) (w : World) (g : Gh), RelG B F w0 n σ' a w g →
    ∃ u, (execOp a.eval o).run P w = .ok (.value u) w ∧ RepS w g x u)
    (hr : ∀ σ', Agree o σ σ' → σ'.Ok → ∀ k, x.refs k → σ'.obj k ≠ none)
    (hn : ∀ y, carry o.op = some y → ∀ k, x.refs k → (ev σ y).refs k := by first | (intro _ _ k hk; simp [AV.refs] at hk; done) | (intro _ h; simp_all [carry]; done))
    (hmk : makes o.op = true → ∀ k, x.refs k → o.dst = some k := by first | (intro _ k hk; simp [AV.refs] at hk; done) | (intro h; simp_all [makes]; done)) : Step P N c σ o ⟨x, []⟩ where
  ok := by
    rintro σ' hA B F w0 n a w hd ⟨g, r⟩ Q _
    obtain ⟨u, hu, hrep⟩ := h σ' hA B F w0 n a w g r
    unfold Oper.wp
    rw [hu, Oper.upon_value]
    exact ⟨g, RelG.putO r o.dst hrep (hr σ' hA r.ok) hd⟩
  objs := fun p hp => by cases hp
  okk := fun σ' hA ok => by
    refine ⟨fun i k hk => ?_, ok_tail (app_obj _ _ _) ok.2⟩
    rw [app_slot] at hk
    rw [app_obj]
    split at hk
    · exact hr σ' hA ok k hk
    · exact ok.1 i k hk
  near := hn
  made := hmk
theorem rep_raw {v : Value} (h : v.oneCell' = true) : RepS w g (.dat (.v v)) v := by simp [RepS, RepV, RepD, h]
theorem runary_one {op : UnOp} {x u : Value} (h : runary op x = some u) : u.oneCell' = true := by
  cases op <;> cases x <;> simp only [runary, Option.some.injEq, reduceCtorEq] at h <;> subst h <;> rfl
theorem rconv_one {d : TyD} {x u : Value} (h : rconv d x = some u) : u.oneCell' = true := by
  cases d <;> cases x <;> simp only [rconv, Option.some.injEq, reduceCtorEq] at h <;> subst h <;> rfl
theorem opV_run (hT : TabOk P T) (r : RelG B F w0 n σ a w g) {o : Oper} {y : AV} (h : opV T σ o = some y) :
    ∃ u, (execOp a.eval o).run P w = .ok (.value u) w ∧ RepS w g y u ∧ ∀ k, y.refs k → σ.obj k ≠ none := by
  obtain ⟨dst, op, type, pos, after, guard⟩ := o
  unfold opV at h
  cases op with
  | move x =>
    simp only [Option.some.injEq] at h; subst h
    exact ⟨a.eval x, rfl, nilT_rep (ev_rep r x), fun k hk => ev_refs r.ok x k (nilT_refs hk)⟩
  | assign x =>
    simp only [Option.some.injEq] at h; subst h
    exact ⟨a.eval x, rfl, nilT_rep (ev_rep r x), fun k hk => ev_refs r.ok x k (nilT_refs hk)⟩
  | pick c x z =>
    simp only [opPick] at h
    split at h
    · rename_i b hc
      have hb := raw_eval (ev_rep r c) (by rw [hc]; rfl)
      cases b with
      | true =>
        simp only [Option.some.injEq] at h; subst h
        exact ⟨a.eval x, by simp [execOp, hb, asBool], ev_rep r x, ev_refs r.ok x⟩
      | false =>
        simp only [Option.some.injEq] at h; subst h
        exact ⟨a.eval z, by simp [execOp, hb, asBool], ev_rep r z, ev_refs r.ok z⟩
    · cases h
  | binOp op t x z t' =>
    simp only at h
    split at h
    · rename_i u v hu hv
      have e1 := raw_eval (ev_rep r x) hu
      have e2 := raw_eval (ev_rep r z) hv
      obtain ⟨res, h1, h2, h3⟩ := opBin_run (P := P) (w := w) (g := g) hT h x z
      exact ⟨res, by simp only [execOp, e1, e2]; rw [Sem.run_bind, h1]; rfl, h2, fun k hk => absurd hk (h3 k)⟩
    · cases h
  | unOp op t x =>
    simp only at h
    split at h
    · rename_i u hu
      split at h
      · rename_i v hv
        simp only [Option.some.injEq] at h; subst h
        have e1 := raw_eval (ev_rep r x) hu
        exact ⟨v, by simp only [execOp, e1, Sem.run_bind, run_runary hv w]; rfl, rep_raw (runary_one hv), fun k hk => by simp [AV.refs] at hk⟩
      · cases h
    · cases h
  | convert s d x =>
    simp only at h
    split at h
    · rename_i u hu
      unfold opConv at h
      split at h
      · rename_i ts td hs hd
        split at h
        · rename_i v hv
          simp only [Option.some.injEq] at h; subst h
          have e1 := raw_eval (ev_rep r x) hu
          obtain ⟨_, _, _, _, s2, _⟩ := hT _ _ hs
          obtain ⟨_, _, _, _, d2, d3, _⟩ := hT _ _ hd
          exact ⟨v, by simp only [execOp, e1, Sem.run_bind, run_rconv s2 d2 d3 hv w]; rfl, rep_raw (rconv_one hv), fun k hk => by simp [AV.refs] at hk⟩
        · cases h
      · cases h
    · cases h
  | fieldAddr s x i =>
    obtain ⟨u, h1, h2, h3⟩ := opFieldAddr_run (P := P) (w := w) hT (ev_rep r x) h
    exact ⟨u, by simp only [execOp, Sem.run_bind, h1]; rfl, h2, fun k hk => ev_refs r.ok x k (h3 k hk)⟩
  | field s x i =>
    obtain ⟨u, h1, h2, h3⟩ := opField_run (P := P) (w := w) hT (ev_rep r x) h
    exact ⟨u, by simp only [execOp, Sem.run_bind, h1]; rfl, h2, fun k hk => absurd hk (h3 k)⟩
  | extract x i =>
    simp only at h
    split at h
    · rename_i xs hx
      split at h
      · rename_i z hz
        simp only [Option.some.injEq] at h; subst h
        have hev := ev_rep r x
        rw [hx] at hev
        obtain ⟨us, e, hf⟩ := hev
        obtain ⟨u, hu, hrep⟩ := hf.get hz
        exact ⟨u, by simp [execOp, e, Instr.extract, hu], RepU.v hrep, fun k hk => by simp [AV.refs] at hk⟩
      · cases h
    · cases h
  | build t ps =>
    obtain ⟨u, h1, h2, h3⟩ := opBuild_run hT r h
    exact ⟨u, by simp only [execOp, Sem.run_bind, h1]; rfl, h2, h3⟩
  | nilCheck x =>
    simp only at h
    have hev := ev_rep r x
    split at h
    · rename_i id p off hx
      simp only [Option.some.injEq] at h; subst h
      rw [hx] at hev
      have hev' := hev
      simp only [RepS] at hev
      exact ⟨a.eval x, by simp [execOp, hev], hev', fun k hk => ev_refs r.ok x k (by rw [hx]; exact hk)⟩
    · rename_i z hx
      simp only [Option.some.injEq] at h; subst h
      rw [hx] at hev
      have hev' := hev
      simp only [RepS, RepA] at hev
      obtain ⟨b, o, ds, e, _⟩ := hev
      simp only [List.cons.injEq, and_true] at e
      exact ⟨a.eval x, by simp [execOp, e], hev', fun k hk => by simp [AV.refs] at hk⟩
    · cases h
  | load t x =>
    obtain ⟨u, h1, h2, h3⟩ := opLoad_run (P := P) hT r (ev_rep r x) h
    exact ⟨u, by simp only [execOp, Sem.run_bind, h1]; rfl, h2, h3⟩
  | call c =>
    obtain ⟨callee, args, ats⟩ := c
    cases callee with
    | builtin b =>
      simp only at h
      have hargs : args = args.toList.toArray := by simp
      have hats : ats = ats.toList.toArray := by simp
      generalize args.toList = l at *
      generalize ats.toList = m at *
      subst hargs
      subst hats
      cases b with
      | len =>
        simp only [opBuiltin] at h
        split at h
        · rename_i x t
          obtain ⟨u, h1, h2, h3⟩ := opLen_run (P := P) hT r type (ev_rep r x) h
          exact ⟨u, by simp [execOp, resolve, invoke, builtin, h1], h2, fun k hk => absurd hk (h3 k)⟩
        · cases h
      | max =>
        simp only [opBuiltin] at h
        split at h
        · rename_i x z
          unfold opMax at h
          split at h
          · rename_i k p k' q hx hz
            simp only [Option.some.injEq] at h; subst h
            have e1 := raw_eval (ev_rep r x) hx
            have e2 := raw_eval (ev_rep r z) hz
            exact ⟨_, by simp [execOp, resolve, invoke, builtin, e1, e2, run_max_int2], rep_raw rfl, fun k hk => by simp [AV.refs] at hk⟩
          · cases h
        · cases h
      | min =>
        simp only [opBuiltin] at h
        split at h
        · rename_i x z
          unfold opMin at h
          split at h
          · rename_i k p k' q hx hz
            simp only [Option.some.injEq] at h; subst h
            have e1 := raw_eval (ev_rep r x) hx
            have e2 := raw_eval (ev_rep r z) hz
            exact ⟨_, by simp [execOp, resolve, invoke, builtin, e1, e2, run_min_int2], rep_raw rfl, fun k hk => by simp [AV.refs] at hk⟩
          · cases h
        · cases h
      | _ => simp [opBuiltin] at h
    | _ => simp at h
  | _ => simp at h
theorem locA_refs : ∀ (p : List Pa) (c : AV) (off o : Nat) (y : AV), locA c p off = some (o, y) → ∀ k, y.refs k → c.refs k
  | [], c, off, o, y, h, k, hk => by
    simp only [locA, Option.some.injEq, Prod.mk.injEq] at h
    rw [h.2]; exact hk
  | s :: p, .dat x, off, o, y, h, k, hk => by
    rw [locA_dat] at h
    split at h
    · simp only [Option.some.injEq, Prod.mk.injEq] at h
      rw [← h.2] at hk
      simp [AV.refs] at hk
    · cases h
  | .fld i :: p, .st ns xs, off, o, y, h, k, hk => by
    simp only [locA] at h
    split at h
    · rename_i z hz
      simp only [AV.refs]
      exact refsL_mem (List.mem_of_getElem? hz) (locA_refs p z _ o y h k hk)
    · cases h
  | .idx _ :: _, .st .., _, _, _, hl, _, _ => by simp [locA] at hl
  | .fld _ :: _, .oref _, _, _, _, hl, _, _ => by simp [locA] at hl
  | .idx _ :: _, .oref _, _, _, _, hl, _, _ => by simp [locA] at hl
  | .fld _ :: _, .pt .., _, _, _, hl, _, _ => by simp [locA] at hl
  | .idx _ :: _, .pt .., _, _, _, hl, _, _ => by simp [locA] at hl
  | .fld _ :: _, .fb .., _, _, _, hl, _, _ => by simp [locA] at hl
  | .fld _ :: _, .vw .., _, _, _, hl, _, _ => by simp [locA] at hl
  | .idx _ :: _, .vw .., _, _, _, hl, _, _ => by simp [locA] at hl
  | .idx _ :: _, .fb .., _, _, _, hl, _, _ => by simp [locA] at hl
  | .fld _ :: _, .sp _, _, _, _, hl, _, _ => by simp [locA] at hl
  | .idx _ :: _, .sp _, _, _, _, hl, _, _ => by simp [locA] at hl
  | .fld _ :: _, .dead, _, _, _, hl, _, _ => by simp [locA] at hl
  | .idx _ :: _, .dead, _, _, _, hl, _, _ => by simp [locA] at hl
theorem content_refs (ok : σ.Ok) {id : Nat} {o : Obj} {c : AV} (ho : σ.obj id = some o) (hc : contentOf o = some c) (k : Nat) (hk : c.refs k) : σ.obj k ≠ none := by
  cases o with
  | box T' sz x => simp only [contentOf, Option.some.injEq] at hc; subst hc; exact ok.2.1 _ T' sz x ho k hk
  | row E sz xs => simp only [contentOf, Option.some.injEq] at hc; subst hc; simp [AV.refs] at hk
  | gone => simp [contentOf] at hc
  | mp ks xs => simp [contentOf] at hc
  | rr T' E' sz xss hs => simp [contentOf] at hc
theorem buildF_refs (ok : σ.Ok) {t : TypeId} {ns : List Nat} : ∀ (ps : List (Nat × Operand)) (xs ys : List AV), buildF T t σ ns ps xs = some ys → ∀ k, AV.refs.refsL ys k → AV.refs.refsL xs k ∨ σ.obj k ≠ none
  | [], xs, ys, h, k, hk => by simp only [buildF, Option.some.injEq] at h; subst h; exact .inl hk
  | (i, x) :: ps, xs, ys, h, k, hk => by
    simp only [buildF] at h
    split at h
    · split at h
      · rcases buildF_refs ok ps _ ys h k hk with h | h
        · rcases refsL_set h with h | h
          · exact .inl h
          · exact .inr (ev_refs ok x k (nilT_refs h))
        · exact .inr h
      · cases h
    · cases h
theorem opV_refs (ok : σ.Ok) {o : Oper} {y : AV} (h : opV T σ o = some y) : ∀ k, y.refs k → σ.obj k ≠ none := by
  intro k hk
  obtain ⟨dst, op, type, pos, after, guard⟩ := o
  unfold opV at h
  have none : ∀ d : DV, y = .dat d → σ.obj k ≠ none := fun d e => by rw [e] at hk; simp [AV.refs] at hk
  cases op with
  | move x => simp only [Option.some.injEq] at h; subst h; exact ev_refs ok x k (nilT_refs hk)
  | assign x => simp only [Option.some.injEq] at h; subst h; exact ev_refs ok x k (nilT_refs hk)
  | pick c x z =>
    simp only [opPick] at h
    split at h
    · rename_i b hc
      cases b with
      | true => simp only [Option.some.injEq] at h; subst h; exact ev_refs ok x k hk
      | false => simp only [Option.some.injEq] at h; subst h; exact ev_refs ok z k hk
    · cases h
  | binOp op t x z t' =>
    simp only at h
    split at h
    · unfold opBin at h
      repeat' split at h
      all_goals first | (cases h; done) | (simp only [Option.some.injEq] at h; exact none _ h.symm)
    · cases h
  | unOp op t x =>
    simp only at h
    repeat' split at h
    all_goals first | (cases h; done) | (simp only [Option.some.injEq] at h; exact none _ h.symm)
  | convert s d x =>
    simp only [opConv] at h
    repeat' split at h
    all_goals first | (cases h; done) | (simp only [Option.some.injEq] at h; exact none _ h.symm)
  | fieldAddr s x i =>
    simp only [opFieldAddr] at h
    repeat' split at h
    all_goals first
      | (cases h; done)
      | (simp only [Option.some.injEq] at h; subst h; simp [AV.refs] at hk; done)
      | (rename_i hx; simp only [Option.some.injEq] at h; subst h; exact ev_refs ok x k (by rw [hx]; exact hk))
  | field s x i =>
    simp only [opField] at h
    repeat' split at h
    all_goals first | (cases h; done) | (simp only [Option.some.injEq] at h; exact none _ h.symm)
  | extract x i =>
    simp only at h
    repeat' split at h
    all_goals first | (cases h; done) | (simp only [Option.some.injEq] at h; exact none _ h.symm)
  | build t ps =>
    simp only [opBuild] at h
    repeat' split at h
    all_goals first
      | (cases h; done)
      | (simp only [Option.some.injEq] at h; exact none _ h.symm)
      | skip
    rename_i xs hb
    simp only [Option.some.injEq] at h
    subst h
    unfold mkSt' at hk
    split at hk
    · simp [AV.refs] at hk
    · simp only [AV.refs] at hk
      exact (buildF_refs ok _ _ _ hb k hk).resolve_left (refsL_map_dat _ k)
  | nilCheck x =>
    simp only at h
    split at h
    · rename_i hx; simp only [Option.some.injEq] at h; subst h; exact ev_refs ok x k (by rw [hx]; exact hk)
    · simp only [Option.some.injEq] at h; subst h; simp [AV.refs] at hk
    · cases h
  | load t x =>
    simp only [opLoad] at h
    repeat' split at h
    all_goals first
      | (cases h; done)
      | (simp only [Option.some.injEq] at h; exact none _ h.symm)
      | skip
    rename_i hob _ c hc _ _ _ hl _
    simp only [Option.some.injEq] at h
    subst h
    exact content_refs ok hob hc k (locA_refs _ _ _ _ _ hl k hk)
  | call c =>
    simp only at h
    split at h
    · unfold opBuiltin at h
      repeat' split at h
      all_goals first
        | (cases h; done)
        | (simp only [opMin, opMax] at h; split at h <;> first | (cases h; done) | (simp only [Option.some.injEq] at h; exact none _ h.symm))
        | (unfold opLen at h; (repeat' split at h) <;> first | (cases h; done) | (simp only [Option.some.injEq] at h; exact none _ h.symm))
    · cases h
  | _ => simp at h
/-- Operations that make no memory and write none. -/
theorem opFieldAddr_refs {s : TypeId} {x y : AV} {i : Nat} (h : opFieldAddr T s x i = some y) (k : Nat) (hk : y.refs k) : x.refs k := by
  unfold opFieldAddr at h
  repeat' split at h
  all_goals first | (cases h; done) | (simp only [Option.some.injEq] at h; subst h; simp [AV.refs] at hk ⊢; done) | (simp only [Option.some.injEq] at h; subst h; simp [AV.refs] at hk ⊢; exact hk)
theorem Step.pure (hT : TabOk P T) {c : Bool} {o : Oper} {x : AV} (h : opV T σ o = some x) : Step P N c σ o ⟨x, []⟩ := by
  have hc : ∀ σ', Agree o σ σ' → opV T σ' o = some x := fun σ' hA => (opV_congr hA).trans h
  refine Step.value (fun σ' hA B F w0 n a w g r => ?_) (fun σ' hA ok k hk => ?_) (fun y hy k hk => ?_) (fun hm => ?_)
  · obtain ⟨u, h1, h2, _⟩ := opV_run hT r (hc σ' hA)
    exact ⟨u, h1, h2⟩
  · exact opV_refs ok (hc σ' hA) k hk
  · unfold carry at hy
    split at hy
    · rename_i ho; cases hy; simp only [opV, ho] at h; exact opFieldAddr_refs h k hk
    · rename_i ho; cases hy; simp only [opV, ho, Option.some.injEq] at h; subst h; exact nilT_refs hk
    · rename_i ho; cases hy; simp only [opV, ho, Option.some.injEq] at h; subst h; exact nilT_refs hk
    · rename_i ho
      cases hy
      simp only [opV, ho] at h
      split at h
      · rename_i e; cases h; rw [e]; exact hk
      · rename_i e; cases h; rw [e]; exact hk
      · cases h
    · rename_i ho; simp [opV, ho] at h
    · cases hy
  · exfalso
    unfold makes at hm
    split at hm
    · rename_i ho; simp [opV, ho] at h
    · rename_i ho; simp [opV, ho] at h
    · rename_i ho; simp [opV, ho] at h
    · rename_i ho; simp [opV, ho] at h
    · rename_i ho; simp [opV, ho] at h
    · rename_i cl ho
      split at hm
      · rename_i hcl; simp [opV, ho, hcl, opBuiltin] at h
      · cases hm
    · cases hm
end
end Go.Sim
