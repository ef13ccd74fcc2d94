/- What is proved: functions that defer a closure over the variables of their results; what it does where the function returns and where it panics. -/
import Derived.Test.YtlkpbnhinnhlfaaGreatZLFWT
import Derived.Defers
import Derived.Recover

namespace Go.Sim
open Go.RowKit
/-- Objects 1000000, 1000001 .. lie in these blocks. -/
def ListB (bs : List Nat) : Nat → Nat → Prop := fun i k => 1000000 ≤ i ∧ bs[i - 1000000]? = some k
section
variable {B B' : Nat → Nat → Prop} {F : Cx} {w0 w : World} {n : Nat} {σ : St} {a : Act} {g : Gh}
/-- The world that is there is the first one from here on; 'm': which old object a new one is. -/
theorem RelG.reenter (h : RelG B F w0 n σ a w g) {D : List Deferred} {σ' : St} {a' : Act} (m : Nat → Option Nat) (hn : a'.tmps.size = n) (hd : a'.defers = D) (hm : ∀ i j, m i = some j → 1000000 ≤ i ∧ B' i (g.blk j))
    (hinj : ∀ i i' j, m i = some j → m i' = some j → i = i') (hgl : GOk B' w)
    (hs : ∀ i, σ'.slot i = .dead ∨ (∃ x, σ'.slot i = .dat x ∧ RepV w g.S x (a'.tmps.getD i undef)) ∨ ∃ k j, σ'.slot i = .pt k [] 0 ∧ m k = some j ∧ a'.tmps.getD i undef = .pointer (some ⟨g.blk j, 0, none⟩))
    (ho : ∀ i, match m i with | none => σ'.obj i = none | some j => ∃ T sz x, σ'.obj i = some (.box T sz (.dat x)) ∧ σ.obj j = some (.box T sz (.dat x))) (ok : σ'.Ok) :
    RelG B' ⟨g.S, D⟩ w n σ' a' w { S := g.S, blk := fun i => match m i with | some j => g.blk j | none => 0, hdr := fun _ => .bool true, has := fun i => ∃ j, m i = some j, sub := fun _ _ _ => False } := by
  have hbox : ∀ i j, m i = some j → ∃ T sz x cur, σ'.obj i = some (.box T sz (.dat x)) ∧ g.has j ∧ w.heap[g.blk j]? = some (.cells cur T (0, 0)) ∧ cur.size = sz ∧ RepD w g.S x cur.toList := by
    intro i j e
    have h1 := ho i
    rw [e] at h1
    obtain ⟨T, sz, x, h2, h3⟩ := h1
    have h4 := h.objs j
    rw [h3] at h4
    simp only [RepO, RepA] at h4
    obtain ⟨m1, cur, m2, m3, m4⟩ := h4
    exact ⟨T, sz, x, cur, h2, m1, m2, m3, m4⟩
  refine { os := rfl, tape := rfl, output := rfl, size := Nat.le_refl _, old := fun _ _ _ => rfl, n := hn, nlt := h.nlt, glob := hgl, defers := hd, sF := fun k hk => .inl hk, sB := h.sB, own := ?_, dj := ?_, slots := ?_, objs := ?_, ok := ok, hv := fun _ => rfl, sub := fun i j b hb => hb.elim }
  · rintro i ⟨j, e⟩
    obtain ⟨_, _, _, _, _, m1, _⟩ := hbox i j e
    obtain ⟨o1, o2, o3⟩ := h.own j m1
    simp only [e]
    exact ⟨o1, .inr (hm i j e), o3⟩
  · rintro i i' hne ⟨j, e⟩ ⟨j', e'⟩
    obtain ⟨_, _, _, _, _, m1, _⟩ := hbox i j e
    obtain ⟨_, _, _, _, _, m1', _⟩ := hbox i' j' e'
    simp only [e, e']
    exact h.dj j j' (fun ee => hne (hinj i i' j e (ee ▸ e'))) m1 m1'
  · intro i
    rcases hs i with e | ⟨x, e, hx⟩ | ⟨k, j, e, hk, hv⟩
    · rw [e]; trivial
    · rw [e]; exact hx
    · rw [e]; simp only [RepS, hk]; exact hv
  · intro i
    have h1 := ho i
    cases e : m i with
    | none =>
      rw [e] at h1
      rw [h1]
      simp only [RepO]
      rintro ⟨j, e'⟩
      rw [e] at e'; cases e'
    | some j =>
      obtain ⟨T, sz, x, cur, h2, m1, m2, m3, m4⟩ := hbox i j e
      rw [h2]
      simp only [RepO, RepA, e]
      exact ⟨⟨j, rfl⟩, cur, m2, m3, m4⟩
end
/-- What such a function's contract asks of its end. -/
def RetB (B : Nat → Nat → Prop) (S : Nat → Prop) (w0 : World) (y : DV) (e : Ending) (w' : World) : Prop := ∃ v, e = .returned v ∧ WOk B w0 w' ∧ RepV w' (fun k => S k ∨ w0.heap.size ≤ k ∨ ∃ i, B i k) y v
section
variable {P : Program} {T : Tab}
/-- Rules for code behind which deferred calls are made. -/
def EWp (P : Program) (fn : Func) (B : Nat → Nat → Prop) (D : List Deferred) (y : DV) (n : Nat) (c : Code) (σ : St) : Prop :=
  ∀ (S : Nat → Prop) (w0 : World) (a : Act) (w : World), Rel B ⟨S, D⟩ w0 n σ a w → c.wp P (bodyPostD P fn (RetB B S w0 y)) a w
theorem ret_of (hT : TabOk P T) {fn : Func} {B : Nat → Nat → Prop} {F : Cx} {w0 w : World} {n : Nat} {σ : St} {a : Act} {ds : List DV} (r : Rel B F w0 n σ a w) (h : resL T σ fn.results.toList = some ds) :
    ∃ v, (results fn a.tmps).run P w = .ok v w ∧ RetB B F.F w0 (fin ds) (.returned v) w := by
  obtain ⟨g, rg⟩ := r
  obtain ⟨v, hv, hrep⟩ := results_run hT rg h
  refine ⟨v, hv, v, rfl, rg.wok, RepV.frame (fun k hk => ?_) (fun _ _ _ => rfl) hrep⟩
  rcases hk with hk | ⟨id, E, sz', xs', ho, h2', rfl⟩
  · exact (rg.sF k hk).imp (fun h => h) .inl
  · obtain ⟨n1, n2, n3⟩ := rg.own id h2'
    rcases n2 with ⟨_, h⟩ | ⟨_, h⟩
    · exact .inr (.inl h)
    · exact .inr (.inr ⟨id, h⟩)
variable {fn : Func} {y : DV} {n : Nat} {σ : St} {B : Nat → Nat → Prop}
theorem EWp.seq {x z : Code} {K : AExit → St → Prop} (hT : TabOk P T) (h : AWp P B n x σ K) (hk : ∀ σ', K .normal σ' → EWp P fn B [] y n z σ') (hr : ∀ σ', K .ret σ' → ∃ ds, resL T σ' fn.results.toList = some ds ∧ fin ds = y)
    (hp : ∀ v σ', ¬ K (.panic v) σ') (hx : ∀ id σ', ¬ K (.exit id) σ') : EWp P fn B [] y n (.seq x z) σ := by
  intro S w0 a w r
  refine wp_seq (wp_mono (h _ w0 a w r) fun e a' w' hq => ?_)
  cases e <;> simp only [post, Exit.then] at hq ⊢
  · obtain ⟨σ', h1, h2⟩ := hq; exact hk σ' h1 S w0 a' w' h2
  · obtain ⟨σ', h1, h2⟩ := hq; exact (hx _ _ h1).elim
  · obtain ⟨σ', h1, h2⟩ := hq
    obtain ⟨ds, h3, rfl⟩ := hr σ' h1
    obtain ⟨v, h4, h5⟩ := ret_of hT h2 h3
    obtain ⟨g, rg⟩ := h2
    show Leaves P fn a'.tmps _ a'.defers .returning w'
    rw [rg.defers]
    exact ⟨v, h4, h5⟩
  · obtain ⟨v, σ', _, h1, _⟩ := hq; exact (hp _ _ h1).elim
/-- The closure that is deferred, over the variables in these blocks. -/
abbrev dfr (fc : FuncId) (bs : List Nat) : Deferred := { target := .fn (.func fc) (bs.map fun b => Value.pointer (some ⟨b, 0, none⟩)).toArray, args := #[] }
theorem run_dfr {fc : FuncId} (hf : FnOk P fc) (vs : Array Value) (w : World) : (invoke (.fn (.func fc) vs) #[]).run P w = .ok (.enter fc vs) w := by
  obtain ⟨fn, hfn, hname, hbody⟩ := hf
  simp only [invoke, callFunc, Sem.run_bind, run_program, Result.andThen_ok, hfn, hname, hbody]
  simp
theorem Leaves.mono {fn : Func} {tmps : Array Value} {R R' : Ending → World → Prop} (h : ∀ e w, R e w → R' e w) : ∀ (ds : List Deferred) (u : FrameMode) (w : World), Leaves P fn tmps R ds u w → Leaves P fn tmps R' ds u w
  | [], .returning, _ => fun ⟨v, h1, h2⟩ => ⟨v, h1, h _ _ h2⟩
  | [], .panicking _, _ => fun h1 => h _ _ h1
  | [], .run, _ => fun h1 => h1.elim
  | _ :: ds, _, _ => fun ⟨h1, fv, cap, f, args, e1, e2, hc⟩ => ⟨h1, fv, cap, f, args, e1, e2, hc.mono fun e _ _ hr => match e, hr with
    | .returned _, hr => Leaves.mono h ds _ _ hr
    | .panicked _, hr => Leaves.mono h ds _ _ hr
    | .outgrown, hr => h _ _ hr⟩
theorem bodyPostD.mono {fn : Func} {R R' : Ending → World → Prop} (h : ∀ e w, R e w → R' e w) : ∀ (e : Exit) (a : Act) (w : World), bodyPostD P fn R e a w → bodyPostD P fn R' e a w
  | .normal, _, _ => fun hp => Leaves.mono h _ _ _ hp
  | .ret, _, _ => fun hp => Leaves.mono h _ _ _ hp
  | .panic _, _, _ => fun hp => Leaves.mono h _ _ _ hp
  | .outgrown, _, _ => fun hp => h _ _ hp
  | .exit _, _, _ => fun hp => hp.elim
  | .goto _, _, _ => fun hp => hp.elim
theorem wpOps_defer {a : Act} {w : World} {fc : FuncId} {d1 : Nat} {ats : Array TypeId} {o1 o2 : Oper} {xs : Array Operand} {Q : Exit → Act → World → Prop} (h1 : o1.op = .makeFunc (.func fc) #[] xs) (h2 : o2.op = .defer { callee := .value (.tmp d1), args := #[], argTypes := ats })
    (e1 : o1.dst = some d1) (e2 : o2.dst = none) (g1 : o1.guard = none) (g2 : o2.guard = none) (hd : d1 < a.tmps.size)
    (hq : Q .normal { tmps := a.tmps.setIfInBounds d1 (.func (.func fc) #[] (xs.map a.eval)), defers := { target := .fn (.func fc) (xs.map a.eval), args := #[] } :: a.defers } w) : wpOps P #[o1, o2] Q [0, 1] a w := by
  simp [wpOps, Region.wanted, g1, g2, Oper.wp, execOp, h1, h2, Instr.makeFunc, Oper.upon, resolve, Deferred.ofValue, Act.put, e1, e2, Act.eval, hd]
  exact .inl (.inl hq)
/-- The region that defers. -/
theorem EWp.defer {z : Code} {id : Nat} {ops : Array Oper} {o1 o2 : Oper} {fc : FuncId} {xs : List Operand} {d1 : Nat} {ats : Array TypeId} {σ' : St} (cells : List Nat) (hops : ops = #[o1, o2])
    (h1 : o1.op = .makeFunc (.func fc) #[] xs.toArray) (e1 : o1.dst = some d1) (g1 : o1.guard = none) (h2 : o2.op = .defer { callee := .value (.tmp d1), args := #[], argTypes := ats }) (e2 : o2.dst = none) (g2 : o2.guard = none) (hd1 : d1 < n)
    (hxs : xs.map (ev σ) = cells.map fun i => .pt i [] 0) (hnd : cells.Nodup) (hlow : ∀ c ∈ cells, c < 1000000)
    (hs : ∀ i, σ'.slot i = .dead ∨ (i ≠ d1 ∧ ∃ x, σ'.slot i = .dat x ∧ σ.slot i = .dat x) ∨ (i ≠ d1 ∧ ∃ j c, σ'.slot i = .pt (1000000 + j) [] 0 ∧ cells[j]? = some c ∧ σ.slot i = .pt c [] 0))
    (ho1 : ∀ i, i < 1000000 → σ'.obj i = none) (ho2 : ∀ j, cells[j]? = none → σ'.obj (1000000 + j) = none) (ho3 : ∀ j c, cells[j]? = some c → ∃ T sz x, σ'.obj (1000000 + j) = some (.box T sz (.dat x)) ∧ σ.obj c = some (.box T sz (.dat x))) (ok : σ'.Ok)
    (hz : ∀ bs : List Nat, bs.length = cells.length → EWp P fn (ListB bs) [dfr fc bs] y n z σ') : EWp P fn NoB [] y n (.seq (.region id ops false) z) σ := by
  intro S w0 a w ⟨g, r⟩
  subst hops
  refine wp_seq (wp_region ?_)
  have hsz : d1 < a.tmps.size := by rw [r.n]; exact hd1
  have hb := hz (cells.map g.blk) (by simp)
  have hcap : Array.map a.eval xs.toArray = ((cells.map g.blk).map fun b => Value.pointer (some ⟨b, 0, none⟩)).toArray := by
    rw [List.map_toArray, List.map_map]
    congr 1
    have : ∀ (xs : List Operand) (cells : List Nat), xs.map (ev σ) = cells.map (fun i => AV.pt i [] 0) → xs.map a.eval = cells.map ((fun b => Value.pointer (some ⟨b, 0, none⟩)) ∘ g.blk) := by
      intro xs
      induction xs with
      | nil => intro cells h; cases cells with | nil => rfl | cons _ _ => simp at h
      | cons x xs ih =>
        intro cells h
        cases cells with
        | nil => simp at h
        | cons c cells =>
          simp only [List.map_cons, List.cons.injEq] at h ⊢
          have hev := ev_rep r x
          rw [h.1] at hev
          simp only [RepS] at hev
          exact ⟨hev, ih cells h.2⟩
    exact this xs cells hxs
  refine wpOps_defer h1 h2 e1 e2 g1 g2 hsz ?_
  rw [hcap]
  have hbox : ∀ c ∈ cells, g.has c ∧ w0.heap.size ≤ g.blk c := by
    intro c hc
    obtain ⟨j, hj⟩ := List.mem_iff_getElem?.1 hc
    obtain ⟨T, sz, x, _, h5⟩ := ho3 j c hj
    have h6 := r.objs c
    rw [h5] at h6
    simp only [RepO, RepA] at h6
    exact ⟨h6.1, (r.own c h6.1).2.1.new (hlow c hc)⟩
  have hB : ∀ i k, ListB (cells.map g.blk) i k → w0.heap.size ≤ k := by
    rintro i k ⟨_, h⟩
    rw [List.getElem?_map] at h
    cases hc : cells[i - 1000000]? with
    | none => rw [hc] at h; cases h
    | some c =>
      rw [hc] at h
      simp only [Option.map_some, Option.some.injEq] at h
      exact h ▸ (hbox c (List.mem_of_getElem? hc)).2
  have hnew := r.reenter (B' := ListB (cells.map g.blk)) (D := [dfr fc (cells.map g.blk)]) (σ' := σ')
    (a' := { tmps := a.tmps.setIfInBounds d1 (.func (.func fc) #[] ((cells.map g.blk).map fun b => Value.pointer (some ⟨b, 0, none⟩)).toArray), defers := { target := .fn (.func fc) ((cells.map g.blk).map fun b => Value.pointer (some ⟨b, 0, none⟩)).toArray, args := #[] } :: a.defers })
    (fun i => if 1000000 ≤ i then cells[i - 1000000]? else none) (by simp [r.n]) (by rw [r.defers]) ?_ ?_ ?_ ?_ ?_ ok
  · refine wp_mono (hb _ _ _ _ ⟨_, hnew⟩) fun e a' w' hq => bodyPostD.mono (fun e w' hR => ?_) e a' w' hq
    obtain ⟨v, rfl, hw, hv⟩ := hR
    refine ⟨v, rfl, ⟨hw.os.trans r.os, hw.tape.trans r.tape, hw.output.trans r.output, Nat.le_trans r.size hw.size, fun k hk hn => ?_⟩, RepV.frame (fun k hk => ?_) (fun _ _ _ => rfl) hv⟩
    · rw [hw.old k (Nat.lt_of_lt_of_le hk r.size) fun i hi => absurd (hB i k hi) (by omega)]
      exact r.old k hk hn
    · rcases hk with hk | hk | ⟨i, hk⟩
      · exact (r.sF k hk).imp (fun h => h) .inl
      · exact .inr (.inl (Nat.le_trans r.size hk))
      · exact .inr (.inl (hB i k hk))
  · intro i j hij
    split at hij
    · rename_i hi
      exact ⟨hi, hi, by rw [List.getElem?_map, hij]; rfl⟩
    · cases hij
  · intro i i' j hi hi'
    split at hi
    · split at hi'
      · obtain ⟨h5, k5⟩ := List.getElem?_eq_some_iff.1 hi
        obtain ⟨h6, k6⟩ := List.getElem?_eq_some_iff.1 hi'
        have h7 := List.pairwise_iff_getElem.1 hnd
        rcases Nat.lt_trichotomy (i - 1000000) (i' - 1000000) with h8 | h8 | h8
        · exact absurd (k5.trans k6.symm) (h7 _ _ h5 h6 h8)
        · omega
        · exact absurd (k6.trans k5.symm) (h7 _ _ h6 h5 h8)
      · cases hi'
    · cases hi
  · exact r.gok fun i k hk hlt => absurd (hB i k hk) (by omega)
  · intro i
    rcases hs i with h | ⟨hne, x, h5, h6⟩ | ⟨hne, j, c, h5, h6, h7⟩
    · exact .inl h
    · refine .inr (.inl ⟨x, h5, ?_⟩)
      have := r.slots i
      rw [h6] at this
      simp only [RepS] at this
      rw [Array.getD_eq_getD_getElem?, Array.getElem?_setIfInBounds_ne (Ne.symm hne), ← Array.getD_eq_getD_getElem?]
      exact this
    · refine .inr (.inr ⟨1000000 + j, c, h5, by simp [h6], ?_⟩)
      have := r.slots i
      rw [h7] at this
      simp only [RepS] at this
      rw [Array.getD_eq_getD_getElem?, Array.getElem?_setIfInBounds_ne (Ne.symm hne), ← Array.getD_eq_getD_getElem?]
      exact this
  · intro i
    by_cases hi : 1000000 ≤ i
    · obtain ⟨j, rfl⟩ : ∃ j, i = 1000000 + j := ⟨i - 1000000, by omega⟩
      simp only [hi, if_true, Nat.add_sub_cancel_left]
      cases hc : cells[j]? with
      | none => exact ho2 j hc
      | some c => exact ho3 j c hc
    · simp only [hi, if_false]
      exact ho1 i (by omega)
/-- Behind it the function returns: the closure finds nothing. -/
theorem EWp.done {fc : FuncId} {bs : List Nat} {z : Code} (hT : TabOk P T) (hf : FnOk P fc) (h : AWp P B n z σ (outQ T fn.results.toList y))
    (hidle : ∀ w, CallsD P fc (bs.map fun b => Value.pointer (some ⟨b, 0, none⟩)).toArray .returning w fun e u w' => e = .returned (.tuple #[]) ∧ u = .returning ∧ w' = w) : EWp P fn B [dfr fc bs] y n z σ := by
  intro S w0 a w r
  have fin : ∀ (σ' : St) (a' : Act) (w' : World), (∃ ds, resL T σ' fn.results.toList = some ds ∧ Sim.fin ds = y) → Rel B ⟨S, [dfr fc bs]⟩ w0 n σ' a' w' → Leaves P fn a'.tmps (RetB B S w0 y) a'.defers .returning w' := by
    rintro σ' a' w' ⟨ds, h3, rfl⟩ r'
    obtain ⟨v, h4, h5⟩ := ret_of hT r' h3
    obtain ⟨g, rg⟩ := r'
    rw [rg.defers]
    refine leaves_cons (f := fc) (by simp) (run_dfr hf _ _) ((hidle w').mono ?_)
    rintro e u w'' ⟨rfl, rfl, rfl⟩
    exact ⟨v, h4, h5⟩
  refine wp_mono (h _ w0 a w r) fun e a' w' hq => ?_
  cases e <;> simp only [post] at hq
  · obtain ⟨σ', h1, h2⟩ := hq; exact fin σ' a' w' h1 h2
  · obtain ⟨σ', h1, _⟩ := hq; exact h1.elim
  · obtain ⟨σ', h1, h2⟩ := hq; exact fin σ' a' w' h1 h2
  · obtain ⟨v, σ', _, h1, _⟩ := hq; exact h1.elim
/-- A call of an own box's method panics, and its box is given up. -/
theorem EWp.panics {D : List Deferred} {z : Code} {id : Nat} {ops : Array Oper} {o1 o2 : Oper} {l : List Oper} {W : Way} {args : List Operand} {ib : Nat} {Ty : TypeId} {sz : Nat} {x x' : DV} {xs : List DV} {v : Value} {τ : St} {cf : Oper → Bool} (hops : ops.toList = o1 :: o2 :: l)
    (hd : ∀ d, o1.dst = some d → d < n) (h1 : AOps P ops cf (fun e σ1 => e = .normal ∧ σ1 = τ) [o1] σ) (g2 : o2.guard = none)
    (hW : W.Is τ o2 ib args) (hc : AFnW P W Ty sz x xs (.pan v) x') (hob : τ.obj ib = some (.box Ty sz (.dat x))) (hlow : ib < 1000000) (ha : argsOk τ false args xs)
    (hk : ∀ S w0 a w, Rel B ⟨S, D⟩ w0 n (τ.set ib .gone) a w → Leaves P fn a.tmps (RetB B S w0 y) a.defers (.panicking (pan v)) w) : EWp P fn B D y n (.seq (.region id ops false) z) σ := by
  intro S w0 a w r
  refine wp_seq (wp_region ?_)
  have e1 : ops[0]? = some o1 := by rw [← Array.getElem?_toList, hops]; rfl
  have e2 : ops[1]? = some o2 := by rw [← Array.getElem?_toList, hops]; rfl
  have hsz : ∃ m, ops.size = m + 2 := ⟨l.length, by rw [← Array.length_toList, hops]; rfl⟩
  obtain ⟨m, hm⟩ := hsz
  have hr : List.range ops.size = 0 :: 1 :: (List.range' 2 m) := by rw [hm, List.range_eq_range', List.range'_succ, List.range'_succ]
  rw [hr, wpOps_cons]
  obtain ⟨e, he, hn, hτ⟩ := h1
  refine gstep_wp e1 hd r he (fun v' a' w' hv => ?_) fun a' w' r' => ?_
  · obtain ⟨σ', hv, _⟩ := hv; cases hv
  · rw [hτ] at r'
    obtain ⟨g, rg⟩ := r'
    have hA : Agree o2 τ τ := ⟨fun _ _ => rfl, fun _ _ h => h, fun _ _ _ _ _ => rfl⟩
    have hrun := Way.run hW hc.1 hA rg
    have hrep := argsOk_rep rg args xs ha
    have hO := rg.objs ib
    rw [hob] at hO
    simp only [RepO, RepA] at hO
    obtain ⟨m1, cur, m2, m3, m4⟩ := hO
    have hS : ∀ k, (g.S k ∨ (false = true ∧ ∃ id, g.has id ∧ k = g.blk id)) → g.S k := fun k hk => hk.elim (fun h => h) (fun h => by cases h.1)
    have hrep' : All2 (RepV w' g.S) xs (args.map a'.eval) := hrep.imp fun z u hz => RepV.frame hS (fun _ _ _ => rfl) hz
    have hcall := hc.2 g.S w' (g.blk ib) cur _ (rg.gok fun i k h hk => by rw [h.2] at hk ⊢; exact (rg.own ib m1).2.1.old hk) m2 m3 (rg.own ib m1).1 m4 hrep'
    rw [wpOps_cons]
    unfold wpOp
    simp only [e2]
    rw [if_pos (by simp [Region.wanted, g2])]
    refine .inl ?_
    unfold Oper.wp
    rw [hrun, Oper.upon_enter]
    refine hcall.mono ?_
    rintro e w'' ⟨hb, rfl⟩
    exact hk S w0 a' w'' ⟨_, rg.spent hlow m1 hb⟩
theorem ListB.blk {bs : List Nat} {F : Cx} {w0 w : World} {a : Act} {g : Gh} (r : RelG (ListB bs) F w0 n σ a w g) {j : Nat} {Ty : TypeId} {sz : Nat} {x : AV} (h : σ.obj (1000000 + j) = some (.box Ty sz x)) : bs[j]? = some (g.blk (1000000 + j)) := by
  have h1 := r.objs (1000000 + j)
  rw [h] at h1
  simp only [RepO] at h1
  rcases (r.own _ h1.1).2.1 with ⟨h2, _⟩ | ⟨_, _, h2⟩
  · omega
  · simpa using h2
end
end Go.Sim
