/- What is proved: contracts of functions that get a pointer to a box of the caller's own and a method of it as a value; their calls; calls of such values; values that are panicked. -/
import Derived.Test.YtifjflhnfjhijaaGreatDoorZPSWT
import Derived.Laws.Build

namespace Go.Sim
open Go.RowKit
def metV (m : FuncId) (b : Nat) : Value := .func (.func m) #[.pointer (some ⟨b, 0, none⟩)] #[]
def AFnM (P : Program) (f m : FuncId) (T : TypeId) (sz : Nat) (x : DV) (xs : List DV) (o : Out) (x' : DV) : Prop := FnOk P f /\
 ∀ (F : Nat -> Prop) (w : World) (b : Nat) (cur : Array Value) (vs : List Value), GOk (OneB b) w -> w.heap[b]? = some (.cells cur T (0, 0)) -> cur.size = sz -> ¬ F b -> RepD w F x cur.toList -> All2 (RepV w F) xs vs ->
  Calls P f (Value.pointer (some ⟨b, 0, none⟩) :: metV m b :: vs).toArray w fun e w' => BelowB b w w' /\ qQp o e fun y v =>
   (∃ cur', w'.heap[b]? = some (.cells cur' T (0, 0)) /\ cur'.size = sz /\ RepD w' (fun k => k ≠ b /\ (F k \/ w.heap.size <= k)) x' cur'.toList) /\ RepV w' (fun k => k ≠ b /\ (F k \/ w.heap.size <= k)) y v
section
variable {P : Program} {T : Tab}
theorem AFnM.intro {f m : FuncId} {fn : Func} {c : Code} {Ty : TypeId} {sz : Nat} {x : DV} {xs : List DV} {o : Out} {x' : DV} (hT : q0r P T) (hf : P.funcs[f]? = some fn) (hb : fn.body = some c) (hn : (fn.name == "runtime.NumGoroutine") = false)
    (hl : xs.length + 2 <= fn.ntmps) (hnl : fn.ntmps <= 1000000) (hw : ∀ b, AWp P (OneB b) fn.ntmps c (mkSt ((0, .pt 1000000 [] 0) :: (1, .fb m [1000000] []) :: argL 2 xs) [(1000000, .box Ty sz (.dat x))]) (qT2 T fn.results.toList Ty sz o x')) : AFnM P f m Ty sz x xs o x' := by
  refine ⟨⟨fn, hf, hn, by rw [hb]; rfl⟩, fun F w b cur vs hgl hcur hsz hFb hrx hvs => ?_⟩
  have hlen := All2.length hvs
  have hbl : b < w.heap.size := (Array.getElem?_eq_some_iff.1 hcur).1
  refine calls_of_wp hf hb (wp_mono (hw b ⟨F, []⟩ w _ w ⟨{ S := fun k => F k /\ k < w.heap.size, blk := fun _ => b, hdr := fun _ => .bool true, has := fun i => i = 1000000, sub := fun _ _ _ => False }, ?_⟩) fun e a' w' hp => ?_)
  · refine { os := rfl, tape := rfl, output := rfl, size := Nat.le_refl _, old := fun _ _ _ => rfl, n := ?_, nlt := hnl, glob := hgl, defers := rfl, sF := fun k hk => .inl hk.1, sB := fun k hk => hk.2, own := fun i hi => ⟨fun h => hFb h.1, .inr ⟨by omega, hi, rfl⟩, hbl⟩, dj := fun i j hij hi hj => absurd (hi.trans hj.symm) hij, slots := fun i => ?_, objs := fun i => ?_, ok := ?_, hv := fun _ => rfl, sub := fun i j b hb => hb.elim }
    · simp; omega
    · simp only [mkSt, look]
      split
      · rename_i hi
        have := Nat.eq_of_beq_eq_true hi
        subst this
        rw [Array.getD_eq_getD_getElem?, Array.getElem?_append_left (by simp)]
        simp [RepS]
      · rename_i hi
        have hi0 : i ≠ 0 := fun e => hi (by rw [e]; rfl)
        split
        · rename_i hi1
          have := Nat.eq_of_beq_eq_true hi1
          subst this
          rw [Array.getD_eq_getD_getElem?, Array.getElem?_append_left (by simp)]
          simp [RepS, fbV, metV]
        · rename_i hi1
          have hi1' : i ≠ 1 := fun e => hi1 (by rw [e]; rfl)
          rw [q5u]
          split
          · rename_i h1
            split
            · rename_i y hy
              obtain ⟨u, hu, hr⟩ := hvs.get hy
              have hlt : i - 2 < vs.length := (List.getElem?_eq_some_iff.1 hu).1
              have : ((Value.pointer (some ⟨b, 0, none⟩) :: metV m b :: vs).toArray ++ Array.replicate (fn.ntmps - (Value.pointer (some ⟨b, 0, none⟩) :: metV m b :: vs).toArray.size) undef).getD i undef = u := by
                obtain ⟨j, rfl⟩ : ∃ j, i = j + 2 := ⟨i - 2, by omega⟩
                rw [Array.getD_eq_getD_getElem?, Array.getElem?_append_left (by simp; omega)]
                simp at hu
                simp [hu]
              rw [this]
              exact RepV.restrict hr
            · trivial
          · trivial
    · simp only [mkSt, q0v]
      split
      · rename_i hi
        have := Nat.eq_of_beq_eq_true hi
        subst this
        simp only [RepO, RepA]
        exact ⟨trivial, cur, hcur, hsz, RepD.restrict _ _ hrx⟩
      · rename_i hi
        simp only [RepO]
        exact fun e => hi (by rw [e]; rfl)
    · refine ⟨fun i k hk => ?_, fun i T' sz' x0 hi k hk => ?_, fun i T' E' sz' xss hs hi => ?_⟩
      · simp only [mkSt, look] at hk ⊢
        split at hk
        · simp only [AV.refs] at hk; subst hk; simp [q0v]
        · split at hk
          · simp [AV.refs] at hk; subst hk; simp [q0v]
          · rw [q5u] at hk
            split at hk
            · split at hk <;> simp [AV.refs] at hk
            · simp [AV.refs] at hk
      · simp only [mkSt, q0v] at hi
        split at hi
        · cases hi; simp [AV.refs] at hk
        · cases hi
      · simp only [mkSt, q0v] at hi
        split at hi <;> cases hi
  · have fin : ∀ (σ : St) (ds : List DV), resL T σ fn.results.toList = some ds -> o = .ret (Sim.fin ds) -> σ.obj 1000000 = some (.box Ty sz (.dat x')) -> Rel (OneB b) ⟨F, []⟩ w fn.ntmps σ a' w' -> a'.defers = [] /\ ∃ v, (results fn a'.tmps).run P w' = .ok v w' /\
        (BelowB b w w' /\ qQp o (.returned v) fun y v =>
          (∃ cur', w'.heap[b]? = some (.cells cur' Ty (0, 0)) /\ cur'.size = sz /\ RepD w' (fun k => k ≠ b /\ (F k \/ w.heap.size <= k)) x' cur'.toList) /\ RepV w' (fun k => k ≠ b /\ (F k \/ w.heap.size <= k)) y v) := by
      rintro σ ds h1 rfl h2 ⟨g, rg⟩
      obtain ⟨v, hv, hrep⟩ := qAb hT rg h1
      have hO := rg.objs 1000000
      rw [h2] at hO
      simp only [RepO, RepA] at hO
      obtain ⟨m1, cur', m2, m3, m4⟩ := hO
      obtain ⟨k1, k2, k3⟩ := rg.own 1000000 m1
      have hblk : g.blk 1000000 = b := by
        rcases k2 with ⟨h, _⟩ | ⟨_, _, h⟩
        · omega
        · exact h
      rw [hblk] at m2 k1
      have hS : ∀ k, g.S k -> k ≠ b /\ (F k \/ w.heap.size <= k) := fun k hk => ⟨fun e => k1 (e ▸ hk), rg.sF k hk⟩
      refine ⟨rg.defers, v, hv, ⟨rg.os, rg.tape, rg.output, rg.size, fun k hk hne => rg.old k hk (fun i h => hne h.2)⟩, v, rfl, ⟨cur', m2, m3, RepD.frame hS (fun _ _ _ => rfl) _ _ m4⟩, RepV.frame (fun k hk => ?_) (fun _ _ _ => rfl) hrep⟩
      rcases hk with hk | ⟨id, E, sz', xs', ho, h2', rfl⟩
      · exact hS k hk
      · have hne : id ≠ 1000000 := fun e => by rw [e, h2] at ho; cases ho
        obtain ⟨n1, n2, n3⟩ := rg.own id h2'
        refine ⟨fun e => rg.dj id 1000000 hne h2' m1 (by rw [e, hblk]), .inr ?_⟩
        rcases n2 with ⟨_, h⟩ | ⟨_, h, _⟩
        · exact h
        · exact absurd h hne
    cases e with
    | normal => obtain ⟨σ, ⟨ds, h1, h2, h3⟩, h4⟩ := hp; exact fin σ ds h1 h2 h3 h4
    | ret => obtain ⟨σ, ⟨ds, h1, h2, h3⟩, h4⟩ := hp; exact fin σ ds h1 h2 h3 h4
    | exit i => obtain ⟨σ, h1, h3⟩ := hp; exact h1
    | goto l => exact hp.elim
    | panic ch =>
      obtain ⟨v, σ, rfl, h, hw', hd⟩ := hp
      have h' : o = .pan v := h
      subst h'
      exact ⟨hd, ⟨hw'.os, hw'.tape, hw'.output, hw'.size, fun k hk hne => hw'.old k hk (fun i h => hne h.2)⟩, rfl⟩
    | outgrown => exact hp.elim
end
section
variable {P : Program} {T : Tab}
theorem AFnM.intro' {f m : FuncId} {fn : Func} {c : Code} {Ty : TypeId} {sz : Nat} {x x' : DV} {xs : List DV} {r : Out} {n : Nat} {rs : List ResultVar} {L : List (Nat × AV)} (hT : q0r P T) (hf : P.funcs[f]? = some fn) (hb : fn.body = some c) (hname : (fn.name == "runtime.NumGoroutine") = false)
    (hn : fn.ntmps = n) (hr : fn.results.toList = rs) (hl : Nat.ble (xs.length + 2) n = true) (hL : argL 2 xs = L) (hw : ∀ b, AWp P (OneB b) n c (mkSt ((0, .pt 1000000 [] 0) :: (1, .fb m [1000000] []) :: L) [(1000000, .box Ty sz (.dat x))]) (qT2 T rs Ty sz r x')) (hnl : n <= 1000000 := by decide) :
    AFnM P f m Ty sz x xs r x' := by
  subst hn hr hL
  exact AFnM.intro hT hf hb hname (Nat.le_of_ble_eq_true hl) hnl hw
end
inductive Way where
 | fn (f : FuncId)
 | fm (f m : FuncId)
 | val (m : FuncId)
def Way.f : Way -> FuncId
 | .fn f => f
 | .fm f _ => f
 | .val m => m
def Way.pre : Way -> Nat -> List Value
 | .fn _, b => [.pointer (some ⟨b, 0, none⟩)]
 | .fm _ m, b => [.pointer (some ⟨b, 0, none⟩), metV m b]
 | .val _, b => [.pointer (some ⟨b, 0, none⟩)]
def AFnW (P : Program) (W : Way) (T : TypeId) (sz : Nat) (x : DV) (xs : List DV) (o : Out) (x' : DV) : Prop := FnOk P W.f /\
 ∀ (F : Nat -> Prop) (w : World) (b : Nat) (cur : Array Value) (vs : List Value), GOk (OneB b) w -> w.heap[b]? = some (.cells cur T (0, 0)) -> cur.size = sz -> ¬ F b -> RepD w F x cur.toList -> All2 (RepV w F) xs vs ->
  Calls P W.f (W.pre b ++ vs).toArray w fun e w' => BelowB b w w' /\ qQp o e fun y v =>
   (∃ cur', w'.heap[b]? = some (.cells cur' T (0, 0)) /\ cur'.size = sz /\ RepD w' (fun k => k ≠ b /\ (F k \/ w.heap.size <= k)) x' cur'.toList) /\ RepV w' (fun k => k ≠ b /\ (F k \/ w.heap.size <= k)) y v
theorem AFnB.way {P : Program} {f : FuncId} {T : TypeId} {sz : Nat} {x x' : DV} {xs : List DV} {o : Out} (h : AFnB P f T sz x xs o x') : AFnW P (.fn f) T sz x xs o x' := h
def Way.Is (σ : St) (o : Oper) (id : Nat) (args : List Operand) : Way -> Prop
 | .fn f => ∃ x0 ats, o.op = .call { callee := .value (.func f), args := (x0 :: args).toArray, argTypes := ats } /\ ev σ x0 = .pt id [] 0
 | .fm f m => ∃ x0 x1 ats, o.op = .call { callee := .value (.func f), args := (x0 :: x1 :: args).toArray, argTypes := ats } /\ ev σ x0 = .pt id [] 0 /\ ev σ x1 = .fb m [id] []
 | .val m => ∃ t ats, o.op = .call { callee := .value (.tmp t), args := args.toArray, argTypes := ats } /\ ev σ (.tmp t) = .fb m [id] []
section
variable {P : Program} {N : Value -> Prop} {T : Tab} {σ : St}
theorem Way.mem {o : Oper} {id : Nat} {args : List Operand} {W : Way} (h : W.Is σ o id args) : (∃ x ∈ o.op.operands, (ev σ x).refs id) /\ (∀ x ∈ args, x ∈ o.op.operands) /\ looks o = true /\ wr o = o.op.operands.toList /\ carry o.op = none := by
 cases W with
 | fn f =>
  obtain ⟨x0, ats, ho, h0⟩ := h
  refine ⟨⟨x0, by simp [ho, Op.operands, Call.operands], by rw [h0]; simp [AV.refs]⟩, fun x hx => by simp [ho, Op.operands, Call.operands, hx], by simp [looks, ho], by simp [wr, ho], by simp [carry, ho]⟩
 | fm f m =>
  obtain ⟨x0, x1, ats, ho, h0, h1⟩ := h
  refine ⟨⟨x0, by simp [ho, Op.operands, Call.operands], by rw [h0]; simp [AV.refs]⟩, fun x hx => by simp [ho, Op.operands, Call.operands, hx], by simp [looks, ho], by simp [wr, ho], by simp [carry, ho]⟩
 | val m =>
  obtain ⟨t, ats, ho, h0⟩ := h
  refine ⟨⟨.tmp t, by simp [ho, Op.operands, Call.operands], by rw [h0]; simp [AV.refs]⟩, fun x hx => by simp [ho, Op.operands, Call.operands, hx], by simp [looks, ho], by simp [wr, ho], by simp [carry, ho]⟩
theorem Way.run {o : Oper} {id : Nat} {args : List Operand} {W : Way} (h : W.Is σ o id args) (hf : FnOk P W.f) {σ' : St} (hA : Agree o σ σ') {B : Nat -> Nat -> Prop} {F : Cx} {w0 w : World} {n : Nat} {a : Act} {g : Gh} (r : RelG B F w0 n σ' a w g) :
    (execOp a.eval o).run P w = .ok (.enter W.f (W.pre (g.blk id) ++ args.map a.eval).toArray) w := by
  obtain ⟨fn, hfn, hname, hbody⟩ := hf
  obtain ⟨g1, _, _⟩ := hA
  cases W with
  | fn f =>
    obtain ⟨x0, ats, ho, h0⟩ := h
    have hev := ev_rep r x0
    rw [g1 x0 (by simp [ho, Op.operands, Call.operands]), h0] at hev
    simp only [RepS] at hev
    simp only [Way.f] at hfn
    simp only [execOp, ho, resolve, Act.eval, Deferred.ofValue, Sem.run_bind, Sem.run_pure, Result.andThen_ok, invoke, callFunc, run_program, hfn, hname, hbody]
    simpa [Act.eval, Way.pre, Way.f] using hev
  | fm f m =>
    obtain ⟨x0, x1, ats, ho, h0, h1⟩ := h
    have hev := ev_rep r x0
    rw [g1 x0 (by simp [ho, Op.operands, Call.operands]), h0] at hev
    have hev1 := ev_rep r x1
    rw [g1 x1 (by simp [ho, Op.operands, Call.operands]), h1] at hev1
    simp only [RepS] at hev hev1
    simp only [Way.f] at hfn
    simp only [execOp, ho, resolve, Act.eval, Deferred.ofValue, Sem.run_bind, Sem.run_pure, Result.andThen_ok, invoke, callFunc, run_program, hfn, hname, hbody]
    simp [Act.eval, Way.pre, Way.f, metV] at hev hev1 ⊢
    exact ⟨hev, by simpa [fbV] using hev1⟩
  | val m =>
    obtain ⟨t, ats, ho, h0⟩ := h
    have hev := ev_rep r (.tmp t)
    rw [g1 (.tmp t) (by simp [ho, Op.operands, Call.operands]), h0] at hev
    simp only [RepS, fbV] at hev
    simp only [Way.f] at hfn
    simp only [execOp, ho, resolve, hev, Deferred.ofValue, Sem.run_bind, Sem.run_pure, Result.andThen_ok, invoke, callFunc, run_program, hfn, hname, hbody]
    simp [Way.pre, Way.f]
theorem Step.callW {o : Oper} {W : Way} {args : List Operand} {id : Nat} {Ty : TypeId} {sz : Nat} {x x' : DV} {xs : List DV} {y : DV}
    (ho : W.Is σ o id args) (hc : AFnW P W Ty sz x xs (.ret y) x') (hob : σ.obj id = some (.box Ty sz (.dat x))) (ha : q3t σ false args xs) :
    Step P N true σ o ⟨.dat y, [(id, .box Ty sz (.dat x'))]⟩ where
  ok := by
    rintro σ' hA B F w0 n a w hd ⟨g, r⟩ Q _
    obtain ⟨⟨x0, hx0, hr0⟩, hops, hl, _, _⟩ := Way.mem ho
    have hrun := Way.run ho hc.1 hA r
    obtain ⟨g1, g2, g3⟩ := hA
    have ha' := q5p args xs (fun z hz => g1 z (hops z hz)) (fun z hz => g3 hl z (hops z hz)) ha
    have hrep := q72 r args xs ha'
    have hob' : σ'.obj id = some (.box Ty sz (.dat x)) := by rw [g3 hl x0 hx0 id hr0]; exact hob
    have hO := r.objs id
    rw [hob'] at hO
    simp only [RepO, RepA] at hO
    obtain ⟨m1, cur, m2, m3, m4⟩ := hO
    have hS : ∀ k, (g.S k \/ (false = true /\ ∃ id, g.has id /\ k = g.blk id)) -> g.S k := fun k hk => hk.elim (fun h => h) (fun h => by cases h.1)
    have hrep' : All2 (RepV w g.S) xs (args.map a.eval) := hrep.imp fun z u hz => RepV.frame hS (fun _ _ _ => rfl) hz
    have hcall := hc.2 g.S w (g.blk id) cur _ (r.gok fun i k h hk => by rw [h.2] at hk ⊢; exact (r.own id m1).2.1.old hk) m2 m3 (r.own id m1).1 m4 hrep'
    unfold Oper.wp
    rw [hrun, Oper.upon_enter]
    refine hcall.mono ?_
    rintro e w' ⟨hb, v, rfl, ⟨cur', c1, c2, c3⟩, hv⟩
    have r2 := r.called m1 hb c1 c2 c3
    refine ⟨_, RelG.putO r2 o.dst (x := .dat y) (RepV.frame (fun k hk => ?_) (fun _ _ _ => rfl) hv.restrict) (fun k hk => by simp [AV.refs] at hk) hd⟩
    rcases hk with ⟨⟨_, hk⟩, hlt⟩
    exact hk.imp (fun hk => hk) (fun hk => ⟨hk, hlt⟩)
  objs := fun p hp => by
    obtain ⟨⟨x0, hx0, hr0⟩, _, hl, hw, _⟩ := Way.mem ho
    simp only [List.mem_singleton] at hp
    subst hp
    exact .inr ⟨rfl, hl, x0, by rw [hw]; simpa using hx0, hr0⟩
  okk := fun σ' hA ok => by
    have h1 := q50 ok (d := id) (o := .box Ty sz (.dat x')) (fun _ _ _ e k hk => by cases e; simp [AV.refs] at hk)
    refine ⟨fun i k hk => ?_, q9j (q1r _ _ _) h1.2⟩
    rw [q3p] at hk
    rw [q1r]
    split at hk
    · simp [AV.refs] at hk
    · exact h1.1 i k hk
  near := fun y h => by rw [(Way.mem ho).2.2.2.2] at h; cases h
  made := fun _ k hk => by simp [AV.refs] at hk
theorem Step.callWX {o : Oper} {W : Way} {args : List Operand} {id : Nat} {Ty : TypeId} {sz : Nat} {x x' : DV} {xs : List DV} {v : Value}
    (ho : W.Is σ o id args) (hc : AFnW P W Ty sz x xs (.pan v) x') (hob : σ.obj id = some (.box Ty sz (.dat x))) (ha : q3t σ false args xs) (hv : N v) :
    Step P N true σ o ⟨bot, [(id, .box Ty sz bot)]⟩ where
  ok := by
    rintro σ' hA B F w0 n a w hd ⟨g, r⟩ Q hN
    obtain ⟨⟨x0, hx0, hr0⟩, hops, hl, _, _⟩ := Way.mem ho
    have hrun := Way.run ho hc.1 hA r
    obtain ⟨g1, g2, g3⟩ := hA
    have ha' := q5p args xs (fun z hz => g1 z (hops z hz)) (fun z hz => g3 hl z (hops z hz)) ha
    have hrep := q72 r args xs ha'
    have hob' : σ'.obj id = some (.box Ty sz (.dat x)) := by rw [g3 hl x0 hx0 id hr0]; exact hob
    have hO := r.objs id
    rw [hob'] at hO
    simp only [RepO, RepA] at hO
    obtain ⟨m1, cur, m2, m3, m4⟩ := hO
    have hS : ∀ k, (g.S k \/ (false = true /\ ∃ id, g.has id /\ k = g.blk id)) -> g.S k := fun k hk => hk.elim (fun h => h) (fun h => by cases h.1)
    have hrep' : All2 (RepV w g.S) xs (args.map a.eval) := hrep.imp fun z u hz => RepV.frame hS (fun _ _ _ => rfl) hz
    have hcall := hc.2 g.S w (g.blk id) cur _ (r.gok fun i k h hk => by rw [h.2] at hk ⊢; exact (r.own id m1).2.1.old hk) m2 m3 (r.own id m1).1 m4 hrep'
    unfold Oper.wp
    rw [hrun, Oper.upon_enter]
    refine hcall.mono ?_
    rintro e w' ⟨hb, rfl⟩
    exact hN v _ _ hv (hb.wok r m1) r.defers
  objs := fun p hp => by
    obtain ⟨⟨x0, hx0, hr0⟩, _, hl, hw, _⟩ := Way.mem ho
    simp only [List.mem_singleton] at hp
    subst hp
    exact .inr ⟨rfl, hl, x0, by rw [hw]; simpa using hx0, hr0⟩
  okk := fun σ' hA ok => by
    have h1 := q50 ok (d := id) (o := .box Ty sz bot) (fun _ _ _ e k hk => by cases e; exact (qAf k hk).elim)
    refine ⟨fun i k hk => ?_, q9j (q1r _ _ _) h1.2⟩
    rw [q3p] at hk
    rw [q1r]
    split at hk
    · exact (qAf k hk).elim
    · exact h1.1 i k hk
  near := fun y h => by rw [(Way.mem ho).2.2.2.2] at h; cases h
  made := fun _ k hk => (qAf k hk).elim
theorem Step.bound {c : Bool} {o : Oper} {m : FuncId} {x0 : Operand} {id : Nat} (ho : o.op = .makeFunc (.func m) #[x0] #[]) (hx : ev σ x0 = .pt id [] 0) : Step P N c σ o ⟨.fb m [id] [], []⟩ := by
 refine Step.value (fun σ' hA B F w0 nn a w g rr => ?_) (fun σ' hA ok k hk => ?_) (fun y h => by rw [ho] at h; simp [carry] at h) (fun h => by rw [ho] at h; simp [makes] at h)
 ·have hev := ev_rep rr x0
  rw [hA.1 x0 (by simp [ho, Op.operands]), hx] at hev
  simp only [RepS] at hev
  refine ⟨.func (.func m) #[.pointer (some ⟨g.blk id, 0, none⟩)] #[], by simp [execOp, ho, Instr.makeFunc, hev], by simp [RepS, fbV]⟩
 ·have hk' : k = id := by simpa [AV.refs] using hk
  subst hk'
  have he : ev σ' x0 = .pt k [] 0 := by rw [hA.1 x0 (by simp [ho, Op.operands])]; exact hx
  cases x0 with
  | tmp i => exact ok.1 i k (by simp only [ev] at he; rw [he]; simp [AV.refs])
  | const v => simp only [ev] at he; split at he <;> cases he
  | global i => simp [ev] at he
  | func f => simp [ev] at he
theorem Step.mkif2 {c : Bool} {o : Oper} {t : TypeId} {x : Operand} {k1 k2 : IntKind} {i j : Int} (ho : o.op = .makeInterface t x) (hu : P.concrete t = true) (hx : ev σ x = .dat (.st [1, 1] [.v (.int k1 i), .v (.int k2 j)])) :
    Step P N c σ o ⟨.dat (.v (.iface t (.agg #[.int k1 i, .int k2 j]))), []⟩ := by
  refine Step.value (fun σ' hA B F w0 nn a w g rr => ?_) (fun _ _ _ k hk => by simp [AV.refs] at hk)
  have hev := ev_rep rr x
  rw [hA.1 x (by simp [ho, Op.operands]), hx] at hev
  simp only [RepS, RepV, RepD, RepF] at hev
  obtain ⟨cs, e1, n, ns, c1, c2, e2, rfl, e3, ⟨rfl, _⟩, n', ns', c1', c2', e4, rfl, e5, ⟨rfl, _⟩, _, rfl⟩ := hev
  refine ⟨.iface t (.agg #[.int k1 i, .int k2 j]), ?_, q4i rfl⟩
  simp only [execOp, ho, e1]
  have : (Instr.makeInterface t (.agg #[.int k1 i, .int k2 j])).run P w = .ok (.iface t (.agg #[.int k1 i, .int k2 j])) w := run_makeInterface w t _ hu
  simp [this]
end
section
variable {P : Program} {T : Tab} {ops : Array Oper} {cf : Oper -> Bool} {K : q1f -> St -> Prop} {o : Oper} {rest : List Oper} {L : List (Nat × AV)} {O : List (Nat × Obj)} {d : Nat}
theorem AOps.bound {m : FuncId} {x0 : Operand} {id : Nat} (ho : o.op = .makeFunc (.func m) #[x0] #[]) (hd : o.dst = some d) (hg : gOn ops L o = true) (hx : ev (mkSt L O) x0 = .pt id [] 0) (k : AOps P ops cf K rest (mkSt ((d, .fb m [id] []) :: L) O)) : AOps P ops cf K (o :: rest) (mkSt L O) :=
 AOps.v hd hg (Step.bound ho hx) k
theorem AOps.mkif2 {t : TypeId} {x : Operand} {k1 k2 : IntKind} {i j : Int} (ho : o.op = .makeInterface t x) (hd : o.dst = some d) (hg : gOn ops L o = true) (hu : P.concrete t = true) (hx : ev (mkSt L O) x = .dat (.st [1, 1] [.v (.int k1 i), .v (.int k2 j)]))
    (k : AOps P ops cf K rest (mkSt ((d, .dat (.v (.iface t (.agg #[.int k1 i, .int k2 j])))) :: L) O)) : AOps P ops cf K (o :: rest) (mkSt L O) := AOps.v hd hg (Step.mkif2 ho hu hx) k
end
def qR3 (fs : List Nat) (o : Oper) : Bool := q00 fs o || match o.op with
 | .call c => match c.callee with | .value (.tmp _) => true | _ => false
 | _ => false
def oX {α ε : Type} (y : α -> DV) (s : ε -> Value) : Except ε α -> Out
 | .ok a => .ret (y a)
 | .error e => .pan (s e)
def bX {α ε : Type} (z : α -> DV) (x : DV) : Except ε α -> DV
 | .ok a => z a
 | .error _ => x
def CallX {α ε : Type} (R : Except ε α -> Prop) (qe : ε -> Prop) (q : α -> Prop) : Prop := ∃ r, R r /\ (match r with | .ok a => q a | .error e => qe e)
theorem CallX.er {α ε : Type} {R : Except ε α -> Prop} {qe : ε -> Prop} {q : α -> Prop} {e : ε} (h1 : R (.error e)) (h2 : qe e) : CallX R qe q := ⟨.error e, h1, h2⟩
end Go.Sim
