/- What is proved: functions that defer a closure over the variables of their results; what it does where the function returns and where it panics. -/
import Derived.Test.YtifjflhnfjhijaaGreatDoorZPSSimR
import Derived.Defers
import Derived.Recover

namespace Go.Sim
open Go.RowKit
theorem qNv {L : List (Nat × AV)} {O : List (Nat × Obj)} (hc : qFc (O.map (·.1)) L O = true) : (mkSt L O).Ok := by
 simp only [qFc, Bool.and_eq_true, List.all_eq_true] at hc
 refine ⟨fun i k hk => ?_, fun i T sz x hi k hk => ?_, fun i T E sz xss hs hi p hp => ?_⟩
 ·simp only [mkSt] at hk ⊢
  rcases @qKm L i with h | ⟨p, hp, e⟩
  ·rw [h] at hk; simp [AV.refs] at hk
  ·rw [← e] at hk; exact q71 (refsB_spec p.2 k (hc.1 p hp) hk)
 ·simp only [mkSt] at hi ⊢
  have := hc.2 _ (q7l hi)
  exact q71 (refsB_spec x k this hk)
 ·simp only [mkSt] at hi ⊢
  have := hc.2 _ (q7l hi)
  have := List.all_eq_true.1 this p hp
  exact q71 (by simpa using this)
theorem qLc : ∀ {L : List (Nat × AV)} (i : Nat), look L i = .dead \/ (i, look L i) ∈ L
 | [], _ => .inl rfl
 | p :: l, i => by
  simp only [look]
  split
  ·rename_i hi
   have := Nat.eq_of_beq_eq_true hi
   subst this
   exact .inr (by simp)
  ·exact (qLc (L := l) i).imp id fun h => List.mem_cons_of_mem _ h
theorem qP0 {O : List (Nat × Obj)} {i : Nat} (h : ∀ p ∈ O, p.1 ≠ i) : q0v O i = none := by
 cases hh : q0v O i with
 | none => rfl
 | some o => exact absurd rfl (h _ (q7l hh))
def ListB (bs : List Nat) : Nat -> Nat -> Prop := fun i k => 1000000 <= i /\ bs[i - 1000000]? = some k
section
variable {B B' : Nat -> Nat -> Prop} {F : Cx} {w0 w : World} {n : Nat} {σ : St} {a : Act} {g : Gh}
theorem RelG.reseat (h : RelG B F w0 n σ a w g) {D : List Deferred} {n' : Nat} {σ' : St} {a' : Act} (hn : a'.tmps.size = n') (hnl : n' <= 1000000) (hd : a'.defers = D) (ho : σ'.obj = σ.obj)
    (hs : ∀ i, RepS w g (σ'.slot i) (a'.tmps.getD i undef)) (ok : σ'.Ok) : RelG B ⟨F.F, D⟩ w0 n' σ' a' w g where
  os := h.os
  tape := h.tape
  output := h.output
  size := h.size
  old := h.old
  nlt := hnl
  glob := h.glob
  n := hn
  defers := hd
  sF := h.sF
  sB := h.sB
  own := h.own
  dj := h.dj
  slots := hs
  objs := fun i => by rw [ho]; exact h.objs i
  ok := ok
  hv := h.hv
  sub := h.sub
theorem RelG.reenter (h : RelG B F w0 n σ a w g) {D : List Deferred} {σ' : St} {a' : Act} (m : Nat -> Option Nat) (hn : a'.tmps.size = n) (hd : a'.defers = D) (hm : ∀ i j, m i = some j -> 1000000 <= i /\ B' i (g.blk j))
    (hinj : ∀ i i' j, m i = some j -> m i' = some j -> i = i') (hgl : GOk B' w)
    (hs : ∀ i, σ'.slot i = .dead \/ (∃ x, σ'.slot i = .dat x /\ RepV w g.S x (a'.tmps.getD i undef)) \/ ∃ k j, σ'.slot i = .pt k [] 0 /\ m k = some j /\ a'.tmps.getD i undef = .pointer (some ⟨g.blk j, 0, none⟩))
    (ho : ∀ i, match m i with | none => σ'.obj i = none | some j => ∃ T sz x, σ'.obj i = some (.box T sz (.dat x)) /\ σ.obj j = some (.box T sz (.dat x))) (ok : σ'.Ok) :
    RelG B' ⟨g.S, D⟩ w n σ' a' w { S := g.S, blk := fun i => match m i with | some j => g.blk j | none => 0, hdr := fun _ => .bool true, has := fun i => ∃ j, m i = some j, sub := fun _ _ _ => False } := by
  have hbox : ∀ i j, m i = some j -> ∃ T sz x cur, σ'.obj i = some (.box T sz (.dat x)) /\ g.has j /\ w.heap[g.blk j]? = some (.cells cur T (0, 0)) /\ cur.size = sz /\ RepD w g.S x cur.toList := by
    intro i j e
    have h1 := ho i
    rw [e] at h1
    obtain ⟨T, sz, x, h2, h3⟩ := h1
    have h4 := h.objs j
    rw [h3] at h4
    simp only [RepO, RepA] at h4
    obtain ⟨m1, cur, m2, m3, m4⟩ := h4
    exact ⟨T, sz, x, cur, h2, m1, m2, m3, m4⟩
  refine { os := rfl, tape := rfl, output := rfl, size := Nat.le_refl _, old := fun _ _ _ => rfl, n := hn, nlt := h.nlt, glob := hgl, defers := hd, sF := fun k hk => .inl hk, sB := h.sB, own := ?_, dj := ?_, slots := ?_, objs := ?_, ok := ok, hv := fun _ => rfl, sub := fun i j b hb => hb.elim }
  · rintro i ⟨j, e⟩
    obtain ⟨_, _, _, _, _, m1, _⟩ := hbox i j e
    obtain ⟨o1, o2, o3⟩ := h.own j m1
    simp only [e]
    exact ⟨o1, .inr (hm i j e), o3⟩
  · rintro i i' hne ⟨j, e⟩ ⟨j', e'⟩
    obtain ⟨_, _, _, _, _, m1, _⟩ := hbox i j e
    obtain ⟨_, _, _, _, _, m1', _⟩ := hbox i' j' e'
    simp only [e, e']
    exact h.dj j j' (fun ee => hne (hinj i i' j e (ee ▸ e'))) m1 m1'
  · intro i
    rcases hs i with e | ⟨x, e, hx⟩ | ⟨k, j, e, hk, hv⟩
    · rw [e]; trivial
    · rw [e]; exact hx
    · rw [e]; simp only [RepS, hk]; exact hv
  · intro i
    have h1 := ho i
    cases e : m i with
    | none =>
      rw [e] at h1
      rw [h1]
      simp only [RepO]
      rintro ⟨j, e'⟩
      rw [e] at e'; cases e'
    | some j =>
      obtain ⟨T, sz, x, cur, h2, m1, m2, m3, m4⟩ := hbox i j e
      rw [h2]
      simp only [RepO, RepA, e]
      exact ⟨⟨j, rfl⟩, cur, m2, m3, m4⟩
end
def RetB (B : Nat -> Nat -> Prop) (S : Nat -> Prop) (w0 : World) (y : DV) (e : Ending) (w' : World) : Prop := ∃ v, e = .returned v /\ WOk B w0 w' /\ RepV w' (fun k => S k \/ w0.heap.size <= k \/ ∃ i, B i k) y v
section
variable {P : Program} {T : Tab}
def EWp (P : Program) (fn : Func) (B : Nat -> Nat -> Prop) (D : List Deferred) (y : DV) (n : Nat) (c : Code) (σ : St) : Prop :=
 ∀ (S : Nat -> Prop) (w0 : World) (a : Act) (w : World), Rel B ⟨S, D⟩ w0 n σ a w -> c.wp P (bodyPostD P fn (RetB B S w0 y)) a w
theorem qRs (hT : q0r P T) {fn : Func} {B : Nat -> Nat -> Prop} {F : Cx} {w0 w : World} {n : Nat} {σ : St} {a : Act} {ds : List DV} (r : Rel B F w0 n σ a w) (h : resL T σ fn.results.toList = some ds) :
    ∃ v, (results fn a.tmps).run P w = .ok v w /\ RetB B F.F w0 (fin ds) (.returned v) w := by
  obtain ⟨g, rg⟩ := r
  obtain ⟨v, hv, hrep⟩ := qAb hT rg h
  refine ⟨v, hv, v, rfl, rg.wok, RepV.frame (fun k hk => ?_) (fun _ _ _ => rfl) hrep⟩
  rcases hk with hk | ⟨id, E, sz', xs', ho, h2', rfl⟩
  · exact (rg.sF k hk).imp (fun h => h) .inl
  · obtain ⟨n1, n2, n3⟩ := rg.own id h2'
    rcases n2 with ⟨_, h⟩ | ⟨_, h⟩
    · exact .inr (.inl h)
    · exact .inr (.inr ⟨id, h⟩)
variable {fn : Func} {y : DV} {n : Nat} {σ : St} {B : Nat -> Nat -> Prop}
theorem EWp.seq {x z : Code} {K : q1f -> St -> Prop} (hT : q0r P T) (h : AWp P B n x σ K) (hk : ∀ σ', K .normal σ' -> EWp P fn B [] y n z σ') (hr : ∀ σ', K .ret σ' -> ∃ ds, resL T σ' fn.results.toList = some ds /\ fin ds = y)
    (hp : ∀ v σ', ¬ K (.panic v) σ') (hx : ∀ id σ', ¬ K (.exit id) σ') : EWp P fn B [] y n (.seq x z) σ := by
  intro S w0 a w r
  refine wp_seq (wp_mono (h _ w0 a w r) fun e a' w' hq => ?_)
  cases e <;> simp only [post, Exit.then] at hq ⊢
  · obtain ⟨σ', h1, h2⟩ := hq; exact hk σ' h1 S w0 a' w' h2
  · obtain ⟨σ', h1, h2⟩ := hq; exact (hx _ _ h1).elim
  · obtain ⟨σ', h1, h2⟩ := hq
    obtain ⟨ds, h3, rfl⟩ := hr σ' h1
    obtain ⟨v, h4, h5⟩ := qRs hT h2 h3
    obtain ⟨g, rg⟩ := h2
    show Leaves P fn a'.tmps _ a'.defers .returning w'
    rw [rg.defers]
    exact ⟨v, h4, h5⟩
  · obtain ⟨v, σ', _, h1, _⟩ := hq; exact (hp _ _ h1).elim
theorem AFn.introD {f : FuncId} {c : Code} {xs : List DV} (hf : P.funcs[f]? = some fn) (hb : fn.body = some c) (hn : (fn.name == "runtime.NumGoroutine") = false)
    (hl : xs.length <= fn.ntmps) (hnl : fn.ntmps <= 1000000) (hw : EWp P fn NoB [] y fn.ntmps c (mkSt (argL 0 xs) [])) : AFn P f xs y false := by
  refine ⟨⟨fn, hf, hn, by rw [hb]; rfl⟩, fun F w vs hgl hvs => ?_⟩
  have hlen := All2.length hvs
  refine (calls_of_wp_defers hf hb (hw (fun k => F k /\ k < w.heap.size) w _ w ⟨{ S := fun k => F k /\ k < w.heap.size, blk := fun _ => 0, hdr := fun _ => .bool true, has := fun _ => False, sub := fun _ _ _ => False }, ?_⟩)).mono ?_
  · refine { os := rfl, tape := rfl, output := rfl, size := Nat.le_refl _, old := fun _ _ _ => rfl, n := ?_, nlt := hnl, glob := hgl, defers := rfl, sF := fun k hk => .inl hk, sB := fun k hk => hk.2, own := fun i hi => hi.elim, dj := fun i j _ hi => hi.elim, slots := fun i => ?_, objs := fun i => ?_, ok := ?_, hv := fun _ => rfl, sub := fun i j b hb => hb.elim }
    · simp; omega
    · simp only [mkSt]
      rw [q5u]
      split
      · split
        · rename_i y' hy
          obtain ⟨u, hu, hr⟩ := hvs.get hy
          have hlt : i - 0 < vs.length := (List.getElem?_eq_some_iff.1 hu).1
          have : (vs.toArray ++ Array.replicate (fn.ntmps - vs.toArray.size) undef).getD i undef = u := by
            rw [Array.getD_eq_getD_getElem?, Array.getElem?_append_left (by simp; omega)]
            simp at hu
            simp [hu]
          rw [this]
          exact RepV.restrict hr
        · trivial
      · trivial
    · simp [mkSt, q0v, RepO]
    · refine ⟨fun i k hk => ?_, fun i T' sz' x0 hi k hk => ?_, fun i T' E' sz' xss hs hi => ?_⟩
      · simp only [mkSt] at hk
        rw [q5u] at hk
        split at hk
        · split at hk <;> simp [AV.refs] at hk
        · simp [AV.refs] at hk
      · simp [mkSt, q0v] at hi
      · simp [mkSt, q0v] at hi
  · rintro e w' ⟨v, rfl, hw', hrep⟩
    refine ⟨v, rfl, ⟨hw'.os, hw'.tape, hw'.output, hw'.size, fun k hk => hw'.old k hk fun _ h => h⟩, RepV.frame (fun k hk => ?_) (fun _ _ _ => rfl) hrep⟩
    rcases hk with hk | hk | ⟨_, hk⟩
    · exact .inl ⟨rfl, hk.1⟩
    · exact .inr hk
    · exact hk.elim
abbrev dfr (fc : FuncId) (bs : List Nat) : Deferred := { target := .fn (.func fc) (bs.map fun b => Value.pointer (some ⟨b, 0, none⟩)).toArray, args := #[] }
theorem qRt {fc : FuncId} (hf : FnOk P fc) (vs : Array Value) (w : World) : (invoke (.fn (.func fc) vs) #[]).run P w = .ok (.enter fc vs) w := by
 obtain ⟨fn, hfn, hname, hbody⟩ := hf
 simp only [invoke, callFunc, Sem.run_bind, run_program, Result.andThen_ok, hfn, hname, hbody]
 simp
theorem Leaves.mono {fn : Func} {tmps : Array Value} {R R' : Ending -> World -> Prop} (h : ∀ e w, R e w -> R' e w) : ∀ (ds : List Deferred) (u : FrameMode) (w : World), Leaves P fn tmps R ds u w -> Leaves P fn tmps R' ds u w
 | [], .returning, _ => fun ⟨v, h1, h2⟩ => ⟨v, h1, h _ _ h2⟩
 | [], .panicking _, _ => fun h1 => h _ _ h1
 | [], .run, _ => fun h1 => h1.elim
 | _ :: ds, _, _ => fun ⟨h1, fv, cap, f, args, e1, e2, hc⟩ => ⟨h1, fv, cap, f, args, e1, e2, hc.mono fun e _ _ hr => match e, hr with
  | .returned _, hr => Leaves.mono h ds _ _ hr
  | .panicked _, hr => Leaves.mono h ds _ _ hr
  | .outgrown, hr => h _ _ hr⟩
theorem bodyPostD.mono {fn : Func} {R R' : Ending -> World -> Prop} (h : ∀ e w, R e w -> R' e w) : ∀ (e : Exit) (a : Act) (w : World), bodyPostD P fn R e a w -> bodyPostD P fn R' e a w
 | .normal, _, _ => fun hp => Leaves.mono h _ _ _ hp
 | .ret, _, _ => fun hp => Leaves.mono h _ _ _ hp
 | .panic _, _, _ => fun hp => Leaves.mono h _ _ _ hp
 | .outgrown, _, _ => fun hp => h _ _ hp
 | .exit _, _, _ => fun hp => hp.elim
 | .goto _, _, _ => fun hp => hp.elim
theorem qNw {a : Act} {w : World} {fc : FuncId} {d1 : Nat} {ats : Array TypeId} {o1 o2 : Oper} {xs : Array Operand} {Q : Exit -> Act -> World -> Prop} (h1 : o1.op = .makeFunc (.func fc) #[] xs) (h2 : o2.op = .defer { callee := .value (.tmp d1), args := #[], argTypes := ats })
    (e1 : o1.dst = some d1) (e2 : o2.dst = none) (g1 : o1.guard = none) (g2 : o2.guard = none) (hd : d1 < a.tmps.size)
    (hq : Q .normal { tmps := a.tmps.setIfInBounds d1 (.func (.func fc) #[] (xs.map a.eval)), defers := { target := .fn (.func fc) (xs.map a.eval), args := #[] } :: a.defers } w) : wpOps P #[o1, o2] Q [0, 1] a w := by
  simp [wpOps, Region.wanted, g1, g2, Oper.wp, execOp, h1, h2, Instr.makeFunc, Oper.upon, resolve, Deferred.ofValue, Act.put, e1, e2, Act.eval, hd]
  exact .inl (.inl hq)
theorem EWp.defer {z : Code} {id : Nat} {ops : Array Oper} {o1 o2 : Oper} {fc : FuncId} {xs : List Operand} {d1 : Nat} {ats : Array TypeId} {σ' : St} (cells : List Nat) (hops : ops = #[o1, o2])
    (h1 : o1.op = .makeFunc (.func fc) #[] xs.toArray) (e1 : o1.dst = some d1) (g1 : o1.guard = none) (h2 : o2.op = .defer { callee := .value (.tmp d1), args := #[], argTypes := ats }) (e2 : o2.dst = none) (g2 : o2.guard = none) (hd1 : d1 < n)
    (hxs : xs.map (ev σ) = cells.map fun i => .pt i [] 0) (hnd : cells.Nodup) (hlow : ∀ c ∈ cells, c < 1000000)
    (hs : ∀ i, σ'.slot i = .dead \/ (i ≠ d1 /\ ∃ x, σ'.slot i = .dat x /\ σ.slot i = .dat x) \/ (i ≠ d1 /\ ∃ j c, σ'.slot i = .pt (1000000 + j) [] 0 /\ cells[j]? = some c /\ σ.slot i = .pt c [] 0))
    (ho1 : ∀ i, i < 1000000 -> σ'.obj i = none) (ho2 : ∀ j, cells[j]? = none -> σ'.obj (1000000 + j) = none) (ho3 : ∀ j c, cells[j]? = some c -> ∃ T sz x, σ'.obj (1000000 + j) = some (.box T sz (.dat x)) /\ σ.obj c = some (.box T sz (.dat x))) (ok : σ'.Ok)
    (hz : ∀ bs : List Nat, bs.length = cells.length -> EWp P fn (ListB bs) [dfr fc bs] y n z σ') : EWp P fn NoB [] y n (.seq (.region id ops false) z) σ := by
  intro S w0 a w ⟨g, r⟩
  subst hops
  refine wp_seq (wp_region ?_)
  have hsz : d1 < a.tmps.size := by rw [r.n]; exact hd1
  have hb := hz (cells.map g.blk) (by simp)
  have hcap : Array.map a.eval xs.toArray = ((cells.map g.blk).map fun b => Value.pointer (some ⟨b, 0, none⟩)).toArray := by
    rw [List.map_toArray, List.map_map]
    congr 1
    have : ∀ (xs : List Operand) (cells : List Nat), xs.map (ev σ) = cells.map (fun i => AV.pt i [] 0) -> xs.map a.eval = cells.map ((fun b => Value.pointer (some ⟨b, 0, none⟩)) ∘ g.blk) := by
      intro xs
      induction xs with
      | nil => intro cells h; cases cells with | nil => rfl | cons _ _ => simp at h
      | cons x xs ih =>
        intro cells h
        cases cells with
        | nil => simp at h
        | cons c cells =>
          simp only [List.map_cons, List.cons.injEq] at h ⊢
          have hev := ev_rep r x
          rw [h.1] at hev
          simp only [RepS] at hev
          exact ⟨hev, ih cells h.2⟩
    exact this xs cells hxs
  refine qNw h1 h2 e1 e2 g1 g2 hsz ?_
  rw [hcap]
  have hbox : ∀ c ∈ cells, g.has c /\ w0.heap.size <= g.blk c := by
    intro c hc
    obtain ⟨j, hj⟩ := List.mem_iff_getElem?.1 hc
    obtain ⟨T, sz, x, _, h5⟩ := ho3 j c hj
    have h6 := r.objs c
    rw [h5] at h6
    simp only [RepO, RepA] at h6
    exact ⟨h6.1, (r.own c h6.1).2.1.new (hlow c hc)⟩
  have hB : ∀ i k, ListB (cells.map g.blk) i k -> w0.heap.size <= k := by
    rintro i k ⟨_, h⟩
    rw [List.getElem?_map] at h
    cases hc : cells[i - 1000000]? with
    | none => rw [hc] at h; cases h
    | some c =>
      rw [hc] at h
      simp only [Option.map_some, Option.some.injEq] at h
      exact h ▸ (hbox c (List.mem_of_getElem? hc)).2
  have hnew := r.reenter (B' := ListB (cells.map g.blk)) (D := [dfr fc (cells.map g.blk)]) (σ' := σ')
    (a' := { tmps := a.tmps.setIfInBounds d1 (.func (.func fc) #[] ((cells.map g.blk).map fun b => Value.pointer (some ⟨b, 0, none⟩)).toArray), defers := { target := .fn (.func fc) ((cells.map g.blk).map fun b => Value.pointer (some ⟨b, 0, none⟩)).toArray, args := #[] } :: a.defers })
    (fun i => if 1000000 <= i then cells[i - 1000000]? else none) (by simp [r.n]) (by rw [r.defers]) ?_ ?_ ?_ ?_ ?_ ok
  · refine wp_mono (hb _ _ _ _ ⟨_, hnew⟩) fun e a' w' hq => bodyPostD.mono (fun e w' hR => ?_) e a' w' hq
    obtain ⟨v, rfl, hw, hv⟩ := hR
    refine ⟨v, rfl, ⟨hw.os.trans r.os, hw.tape.trans r.tape, hw.output.trans r.output, Nat.le_trans r.size hw.size, fun k hk hn => ?_⟩, RepV.frame (fun k hk => ?_) (fun _ _ _ => rfl) hv⟩
    · rw [hw.old k (Nat.lt_of_lt_of_le hk r.size) fun i hi => absurd (hB i k hi) (by omega)]
      exact r.old k hk hn
    · rcases hk with hk | hk | ⟨i, hk⟩
      · exact (r.sF k hk).imp (fun h => h) .inl
      · exact .inr (.inl (Nat.le_trans r.size hk))
      · exact .inr (.inl (hB i k hk))
  · intro i j hij
    split at hij
    · rename_i hi
      exact ⟨hi, hi, by rw [List.getElem?_map, hij]; rfl⟩
    · cases hij
  · intro i i' j hi hi'
    split at hi
    · split at hi'
      · obtain ⟨h5, k5⟩ := List.getElem?_eq_some_iff.1 hi
        obtain ⟨h6, k6⟩ := List.getElem?_eq_some_iff.1 hi'
        have h7 := List.pairwise_iff_getElem.1 hnd
        rcases Nat.lt_trichotomy (i - 1000000) (i' - 1000000) with h8 | h8 | h8
        · exact absurd (k5.trans k6.symm) (h7 _ _ h5 h6 h8)
        · omega
        · exact absurd (k6.trans k5.symm) (h7 _ _ h6 h5 h8)
      · cases hi'
    · cases hi
  · exact r.gok fun i k hk hlt => absurd (hB i k hk) (by omega)
  · intro i
    rcases hs i with h | ⟨hne, x, h5, h6⟩ | ⟨hne, j, c, h5, h6, h7⟩
    · exact .inl h
    · refine .inr (.inl ⟨x, h5, ?_⟩)
      have := r.slots i
      rw [h6] at this
      simp only [RepS] at this
      rw [Array.getD_eq_getD_getElem?, Array.getElem?_setIfInBounds_ne (Ne.symm hne), ← Array.getD_eq_getD_getElem?]
      exact this
    · refine .inr (.inr ⟨1000000 + j, c, h5, by simp [h6], ?_⟩)
      have := r.slots i
      rw [h7] at this
      simp only [RepS] at this
      rw [Array.getD_eq_getD_getElem?, Array.getElem?_setIfInBounds_ne (Ne.symm hne), ← Array.getD_eq_getD_getElem?]
      exact this
  · intro i
    by_cases hi : 1000000 <= i
    · obtain ⟨j, rfl⟩ : ∃ j, i = 1000000 + j := ⟨i - 1000000, by omega⟩
      simp only [hi, if_true, Nat.add_sub_cancel_left]
      cases hc : cells[j]? with
      | none => exact ho2 j hc
      | some c => exact ho3 j c hc
    · simp only [hi, if_false]
      exact ho1 i (by omega)
theorem EWp.done {fc : FuncId} {bs : List Nat} {z : Code} (hT : q0r P T) (hf : FnOk P fc) (h : AWp P B n z σ (outQ T fn.results.toList y))
    (hidle : ∀ w, CallsD P fc (bs.map fun b => Value.pointer (some ⟨b, 0, none⟩)).toArray .returning w fun e u w' => e = .returned (.tuple #[]) /\ u = .returning /\ w' = w) : EWp P fn B [dfr fc bs] y n z σ := by
  intro S w0 a w r
  have fin : ∀ (σ' : St) (a' : Act) (w' : World), (∃ ds, resL T σ' fn.results.toList = some ds /\ Sim.fin ds = y) -> Rel B ⟨S, [dfr fc bs]⟩ w0 n σ' a' w' -> Leaves P fn a'.tmps (RetB B S w0 y) a'.defers .returning w' := by
    rintro σ' a' w' ⟨ds, h3, rfl⟩ r'
    obtain ⟨v, h4, h5⟩ := qRs hT r' h3
    obtain ⟨g, rg⟩ := r'
    rw [rg.defers]
    refine leaves_cons (f := fc) (by simp) (qRt hf _ _) ((hidle w').mono ?_)
    rintro e u w'' ⟨rfl, rfl, rfl⟩
    exact ⟨v, h4, h5⟩
  refine wp_mono (h _ w0 a w r) fun e a' w' hq => ?_
  cases e <;> simp only [post] at hq
  · obtain ⟨σ', h1, h2⟩ := hq; exact fin σ' a' w' h1 h2
  · obtain ⟨σ', h1, _⟩ := hq; exact h1.elim
  · obtain ⟨σ', h1, h2⟩ := hq; exact fin σ' a' w' h1 h2
  · obtain ⟨v, σ', _, h1, _⟩ := hq; exact h1.elim
theorem EWp.seqN {D : List Deferred} {x z : Code} {K : q1f -> St -> Prop} (h : AWp P B n x σ K) (hk : ∀ σ', K .normal σ' -> EWp P fn B D y n z σ') (hr : ∀ e σ', K e σ' -> e = .normal) : EWp P fn B D y n (.seq x z) σ := by
 intro S w0 a w r
 refine wp_seq (wp_mono (h _ w0 a w r) fun e a' w' hq => ?_)
 cases e <;> simp only [post, Exit.then] at hq ⊢
 ·obtain ⟨σ', h1, h2⟩ := hq; exact hk σ' h1 S w0 a' w' h2
 ·obtain ⟨σ', h1, h2⟩ := hq; cases hr _ _ h1
 ·obtain ⟨σ', h1, h2⟩ := hq; cases hr _ _ h1
 ·obtain ⟨v, σ', _, h1, _⟩ := hq; cases hr _ _ h1
theorem EWp.seq1 {D : List Deferred} {x z : Code} {τ : St} (h : AWp P B n x σ fun e σ' => e = .normal /\ σ' = τ) (hk : EWp P fn B D y n z τ) : EWp P fn B D y n (.seq x z) σ :=
 EWp.seqN h (fun _ h => h.2 ▸ hk) fun _ _ h => h.1
theorem EWp.panics {D : List Deferred} {z : Code} {id : Nat} {ops : Array Oper} {o1 o2 : Oper} {l : List Oper} {W : Way} {args : List Operand} {ib : Nat} {Ty : TypeId} {sz : Nat} {x x' : DV} {xs : List DV} {v : Value} {τ : St} {cf : Oper -> Bool} (hops : ops.toList = o1 :: o2 :: l)
    (hd : ∀ d, o1.dst = some d -> d < n) (h1 : AOps P ops cf (fun e σ1 => e = .normal /\ σ1 = τ) [o1] σ) (g2 : o2.guard = none)
    (hW : W.Is τ o2 ib args) (hc : AFnW P W Ty sz x xs (.pan v) x') (hob : τ.obj ib = some (.box Ty sz (.dat x))) (hlow : ib < 1000000) (ha : q3t τ false args xs)
    (hk : ∀ S w0 a w, Rel B ⟨S, D⟩ w0 n (τ.set ib .gone) a w -> Leaves P fn a.tmps (RetB B S w0 y) a.defers (.panicking (pan v)) w) : EWp P fn B D y n (.seq (.region id ops false) z) σ := by
  intro S w0 a w r
  refine wp_seq (wp_region ?_)
  have e1 : ops[0]? = some o1 := by rw [← Array.getElem?_toList, hops]; rfl
  have e2 : ops[1]? = some o2 := by rw [← Array.getElem?_toList, hops]; rfl
  have hsz : ∃ m, ops.size = m + 2 := ⟨l.length, by rw [← Array.length_toList, hops]; rfl⟩
  obtain ⟨m, hm⟩ := hsz
  have hr : List.range ops.size = 0 :: 1 :: (List.range' 2 m) := by rw [hm, List.range_eq_range', List.range'_succ, List.range'_succ]
  rw [hr, wpOps_cons]
  obtain ⟨e, he, hn, hτ⟩ := h1
  refine qHd e1 hd r he (fun v' a' w' hv => ?_) fun a' w' r' => ?_
  · obtain ⟨σ', hv, _⟩ := hv; cases hv
  · rw [hτ] at r'
    obtain ⟨g, rg⟩ := r'
    have hA : Agree o2 τ τ := ⟨fun _ _ => rfl, fun _ _ h => h, fun _ _ _ _ _ => rfl⟩
    have hrun := Way.run hW hc.1 hA rg
    have hrep := q72 rg args xs ha
    have hO := rg.objs ib
    rw [hob] at hO
    simp only [RepO, RepA] at hO
    obtain ⟨m1, cur, m2, m3, m4⟩ := hO
    have hS : ∀ k, (g.S k \/ (false = true /\ ∃ id, g.has id /\ k = g.blk id)) -> g.S k := fun k hk => hk.elim (fun h => h) (fun h => by cases h.1)
    have hrep' : All2 (RepV w' g.S) xs (args.map a'.eval) := hrep.imp fun z u hz => RepV.frame hS (fun _ _ _ => rfl) hz
    have hcall := hc.2 g.S w' (g.blk ib) cur _ (rg.gok fun i k h hk => by rw [h.2] at hk ⊢; exact (rg.own ib m1).2.1.old hk) m2 m3 (rg.own ib m1).1 m4 hrep'
    rw [wpOps_cons]
    unfold wpOp
    simp only [e2]
    rw [if_pos (by simp [Region.wanted, g2])]
    refine .inl ?_
    unfold Oper.wp
    rw [hrun, Oper.upon_enter]
    refine hcall.mono ?_
    rintro e w'' ⟨hb, rfl⟩
    exact hk S w0 a' w'' ⟨_, rg.spent hlow m1 hb⟩
theorem ListB.blk {bs : List Nat} {F : Cx} {w0 w : World} {a : Act} {g : Gh} (r : RelG (ListB bs) F w0 n σ a w g) {j : Nat} {Ty : TypeId} {sz : Nat} {x : AV} (h : σ.obj (1000000 + j) = some (.box Ty sz x)) : bs[j]? = some (g.blk (1000000 + j)) := by
 have h1 := r.objs (1000000 + j)
 rw [h] at h1
 simp only [RepO] at h1
 rcases (r.own _ h1.1).2.1 with ⟨h2, _⟩ | ⟨_, _, h2⟩
 ·omega
 ·simpa using h2
theorem qJa {fc : FuncId} {fnc : Func} {bs : List Nat} {zc : Code} {idr : Nat} {ops1 : Array Oper} {o1 o2 : Oper} {c1 : Go.Call} {t1 t2 : Nat} {v : Value} {σc : St} {rs : Nat -> AV} {Qc : q1f -> St -> Prop}
    {S : Nat -> Prop} {w0 w : World} {a : Act} (hT : q0r P T) (hk : FnOk P fc) (hf : P.funcs[fc]? = some fnc) (hb : fnc.body = some (.seq (.region idr ops1 false) zc)) (hres : fnc.results = #[]) (hnl : fnc.ntmps <= 1000000) (hnb : bs.length <= fnc.ntmps)
    (hops : ops1 = #[o1, o2]) (h1 : o1.op = .call c1) (hc1 : c1.callee = .builtin .recover) (hc2 : c1.args = #[]) (e1 : o1.dst = some t1) (g1 : o1.guard = none) (h2 : o2.op = .assign (.tmp t1)) (e2 : o2.dst = some t2) (g2 : o2.guard = none)
    (l1 : t1 < fnc.ntmps) (l2 : t2 < fnc.ntmps) (hv : v.oneCell' = true)
    (hsc : ∀ i, σc.slot i = .dead \/ (i < bs.length /\ i ≠ t1 /\ i ≠ t2 /\ σc.slot i = .pt (1000000 + i) [] 0) \/ ((i = t1 \/ i = t2) /\ σc.slot i = .dat (.v v))) (hoc : σc.obj = σ.obj) (okc : σc.Ok)
    (hbx : ∀ j, j < bs.length -> ∃ Ty sz x, σ.obj (1000000 + j) = some (.box Ty sz x))
    (hsr : ∀ i, rs i = .dead \/ ∃ j, j < bs.length /\ rs i = .pt (1000000 + j) [] 0 /\ σ.slot i = .pt (1000000 + j) [] 0)
    (hzc : AWp P (ListB bs) fnc.ntmps zc σc Qc) (hQ : ∀ e σ', Qc e σ' -> (e = .normal \/ e = .ret) /\ (⟨rs, σ'.obj⟩ : St).Ok /\ (∀ j, j < bs.length -> ∃ Ty sz x, σ'.obj (1000000 + j) = some (.box Ty sz x)) /\ ∃ ds, resL T ⟨rs, σ'.obj⟩ fn.results.toList = some ds /\ Sim.fin ds = y)
    (r : Rel (ListB bs) ⟨S, [dfr fc bs]⟩ w0 n σ a w) : Leaves P fn a.tmps (RetB (ListB bs) S w0 y) a.defers (.panicking (pan v)) w := by
  obtain ⟨g, rg⟩ := r
  rw [rg.defers]
  refine leaves_cons (f := fc) (by simp) (qRt hk _ _) ?_
  have hcall : CallsD P fc (bs.map fun b => Value.pointer (some ⟨b, 0, none⟩)).toArray (.panicking (pan v)) w fun e u w' => e = .returned (.tuple #[]) /\ u = .panicking [{ v := v, recovered := true }] /\ ∃ e' σ' ac, Qc e' σ' /\ Rel (ListB bs) ⟨S, []⟩ w0 fnc.ntmps σ' ac w' := by
    refine callsD_of_wpS hf hb fun c₀ cs hu => ?_
    apply wpS_seq
    apply wpS_region
    subst hops
    obtain ⟨cal, args, ats⟩ := c1
    simp only at hc1 hc2
    subst hc1 hc2
    have hsz1 : t1 < ((bs.map fun b => Value.pointer (some ⟨b, 0, none⟩)).toArray ++ Array.replicate (fnc.ntmps - (bs.map fun b => Value.pointer (some ⟨b, 0, none⟩)).toArray.size) undef).size := by simp; omega
    have hsz2 : t2 < ((bs.map fun b => Value.pointer (some ⟨b, 0, none⟩)).toArray ++ Array.replicate (fnc.ntmps - (bs.map fun b => Value.pointer (some ⟨b, 0, none⟩)).toArray.size) undef).size := by simp; omega
    generalize hA0 : (bs.map fun b => Value.pointer (some ⟨b, 0, none⟩)).toArray ++ Array.replicate (fnc.ntmps - (bs.map fun b => Value.pointer (some ⟨b, 0, none⟩)).toArray.size) undef = A0 at hsz1 hsz2
    have hstep : zc.wpS P (bodyPostS P fnc c₀ cs fun e u w' => e = .returned (.tuple #[]) /\ u = .panicking [{ v := v, recovered := true }] /\ ∃ e' σ' ac, Qc e' σ' /\ Rel (ListB bs) ⟨S, []⟩ w0 fnc.ntmps σ' ac w') { tmps := (A0.setIfInBounds t1 v).setIfInBounds t2 v, defers := [] } ({ c₀ with mode := .panicking [{ v := v, recovered := true }] } :: cs) w := by
      refine wpS_of_wp (wp_mono (hzc ⟨S, []⟩ w0 _ w ⟨g, rg.reseat (D := []) (by simpa using hA0 ▸ (by simp; omega)) hnl rfl hoc (fun i => ?_) okc⟩) fun e a' w' hq => ?_)
      · rcases hsc i with h | ⟨hi, n1, n2, h⟩ | ⟨hi, h⟩
        · rw [h]; trivial
        · rw [h]
          simp only [RepS]
          obtain ⟨_, _, _, h8⟩ := hbx i hi
          have h9 := ListB.blk rg h8
          rw [Array.getD_eq_getD_getElem?, Array.getElem?_setIfInBounds_ne (Ne.symm n2), Array.getElem?_setIfInBounds_ne (Ne.symm n1), ← hA0, Array.getElem?_append_left (by simpa using hi)]
          simp [h9]
        · rw [h]
          have : ((A0.setIfInBounds t1 v).setIfInBounds t2 v).getD i undef = v := by
            rw [Array.getD_eq_getD_getElem?]
            rcases hi with rfl | rfl
            · by_cases e : t2 = i
              · subst e; simp [hsz2]
              · rw [Array.getElem?_setIfInBounds_ne e]; simp [hsz1]
            · simp [hsz2]
          rw [this]
          exact q4i hv
      · have fin : ∀ (e : q1f) (σ' : St), Qc e σ' -> Rel (ListB bs) ⟨S, []⟩ w0 fnc.ntmps σ' a' w' -> a'.defers = [] /\ ∃ u', ({ c₀ with mode := .panicking [{ v := v, recovered := true }] } :: cs : List Frame) = { c₀ with mode := u' } :: cs /\ ∃ v', (results fnc a'.tmps).run P w' = .ok v' w' /\
            (Ending.returned v' = .returned (.tuple #[]) /\ u' = .panicking [{ v := v, recovered := true }] /\ ∃ e' σ' ac, Qc e' σ' /\ Rel (ListB bs) ⟨S, []⟩ w0 fnc.ntmps σ' ac w') := by
          rintro e σ' hq ⟨g', rg'⟩
          exact ⟨rg'.defers, _, rfl, .tuple #[], by simp [results, hres], rfl, rfl, e, σ', a', hq, ⟨g', rg'⟩⟩
        cases e <;> simp only [post] at hq
        · obtain ⟨σ', q1, q2⟩ := hq; exact fin _ _ q1 q2
        · obtain ⟨σ', q1, q2⟩ := hq; rcases (hQ _ _ q1).1 with h | h <;> cases h
        · obtain ⟨σ', q1, q2⟩ := hq; exact fin _ _ q1 q2
        · obtain ⟨v', σ', _, q1, _⟩ := hq; rcases (hQ _ _ q1).1 with h | h <;> cases h
    have hbr : (builtin .recover ats o1.type #[] #[]).run P w = .ok .recover w := by simp [builtin]
    have hrange : List.range (#[o1, o2] : Array Oper).size = [0, 1] := rfl
    rw [hrange]
    simp [wpOpsS, Region.wanted, g1, g2, execOp, h1, h2, resolve, invoke, recoverD, hu, pan, Exit.thenS, e1, e2, Act.put, Act.eval, Oper.upon, hsz1, hbr]
    simpa using hstep
  refine hcall.mono ?_
  rintro e u w' ⟨rfl, rfl, e', σ', ac, hq, ⟨g', rg'⟩⟩
  obtain ⟨_, hok, hbx', ds, hds, rfl⟩ := hQ e' σ' hq
  have hr' : RelG (ListB bs) ⟨S, [dfr fc bs]⟩ w0 n ⟨rs, σ'.obj⟩ a w' g' := by
    refine rg'.reseat (D := [dfr fc bs]) rg.n rg.nlt rg.defers rfl (fun i => ?_) hok
    rcases hsr i with h | ⟨j, hj, h5, h6⟩
    · show RepS w' g' (rs i) _
      rw [h]; trivial
    · show RepS w' g' (rs i) _
      have h7 := rg.slots i
      rw [h6] at h7
      rw [h5]
      simp only [RepS] at h7 ⊢
      obtain ⟨_, _, _, h8⟩ := hbx j hj
      obtain ⟨_, _, _, h9⟩ := hbx' j hj
      have e1 := ListB.blk rg h8
      have e2 := ListB.blk rg' h9
      rw [e1] at e2
      rw [h7, Option.some.inj e2]
  obtain ⟨v', h10, h11⟩ := qRs hT ⟨g', hr'⟩ hds
  exact ⟨v', h10, h11⟩
end
section
variable {P : Program} {N : Value -> Prop} {σ : St}
theorem Step.notnil {c : Bool} {o : Oper} {t t' u : TypeId} {x : Operand} {p : Value} (ho : o.op = .binOp .neq t x (.const .nilIface) t') (hi : P.isIface t = true) (hx : ev σ x = .dat (.v (.iface u p))) : Step P N c σ o ⟨.dat (.v (.bool true)), []⟩ := by
 refine Step.value (fun σ' hA B F w0 n a w g rr => ?_) (fun _ _ _ k hk => by simp [AV.refs] at hk)
 have hev := ev_rep rr x
 rw [hA.1 x (by simp [ho, Op.operands]), hx] at hev
 simp only [RepS, RepV, RepD, List.cons.injEq, and_true] at hev
 refine ⟨.bool true, ?_, q4i rfl⟩
 have ec : a.eval (.const .nilIface) = .nilIface := rfl
 simp only [execOp, ho, hev.1, ec, eqGuard_at_iface]
 simp [run_neq_iface_nil w t hi]
theorem Step.assert2 {c : Bool} {o : Oper} {tx u : TypeId} {x : Operand} {k1 k2 : IntKind} {i j : Int} {fs : Array Field} (ho : o.op = .typeAssert x tx u false) (hu : P.underlying u = some (.struct fs)) (hx : ev σ x = .dat (.v (.iface u (.agg #[.int k1 i, .int k2 j])))) :
    Step P N c σ o ⟨.dat (.st [1, 1] [.v (.int k1 i), .v (.int k2 j)]), []⟩ := by
  refine Step.value (fun σ' hA B F w0 n a w g rr => ?_) (fun _ _ _ k hk => by simp [AV.refs] at hk)
  have hev := ev_rep rr x
  rw [hA.1 x (by simp [ho, Op.operands]), hx] at hev
  simp only [RepS, RepV, RepD, List.cons.injEq, and_true] at hev
  refine ⟨.agg #[.int k1 i, .int k2 j], ?_, ?_⟩
  · simp only [execOp, ho, hev.1, Instr.typeAssert, Sem.run_bind, run_underlying hu, Result.andThen_ok]
    simp
  · exact ⟨[.int k1 i, .int k2 j], rfl, 1, [1], [.int k1 i], [.int k2 j], rfl, rfl, rfl, ⟨rfl, rfl⟩, 1, [], [.int k2 j], [], rfl, rfl, rfl, ⟨rfl, rfl⟩, rfl, rfl⟩
end
section
variable {P : Program} {ops : Array Oper} {cf : Oper -> Bool} {K : q1f -> St -> Prop} {o : Oper} {rest : List Oper} {L : List (Nat × AV)} {O : List (Nat × Obj)} {d : Nat}
theorem AOps.notnil {t t' u : TypeId} {x : Operand} {p : Value} (ho : o.op = .binOp .neq t x (.const .nilIface) t') (hd : o.dst = some d) (hg : gOn ops L o = true) (hi : P.isIface t = true) (hx : ev (mkSt L O) x = .dat (.v (.iface u p)))
    (k : AOps P ops cf K rest (mkSt ((d, .dat (.v (.bool true))) :: L) O)) : AOps P ops cf K (o :: rest) (mkSt L O) := AOps.v hd hg (Step.notnil ho hi hx) k
theorem AOps.assert2 {tx u : TypeId} {x : Operand} {k1 k2 : IntKind} {i j : Int} {fs : Array Field} (ho : o.op = .typeAssert x tx u false) (hd : o.dst = some d) (hg : gOn ops L o = true) (hu : P.underlying u = some (.struct fs)) (hx : ev (mkSt L O) x = .dat (.v (.iface u (.agg #[.int k1 i, .int k2 j]))))
    (k : AOps P ops cf K rest (mkSt ((d, .dat (.st [1, 1] [.v (.int k1 i), .v (.int k2 j)])) :: L) O)) : AOps P ops cf K (o :: rest) (mkSt L O) := AOps.v hd hg (Step.assert2 ho hu hx) k
end
end Go.Sim
