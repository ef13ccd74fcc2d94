/- What is proved: the equality of floats within structs, and the lesser and the greater of two floats. -/
import Derived.Test.YtifjflhnfjhijaaGreatDoorZPSSimE

namespace Go.Sim
open Go.RowKit
end Go.Sim

/- What is proved: own slices of own slices: made, taken apart and put together again, read, written, shared from now on. -/
namespace Go.Sim
open Go.RowKit
end Go.Sim

/- What is proved: operations on own slices of own slices, one after the other. -/
namespace Go.Sim
open Go.RowKit
end Go.Sim

/- What is proved: contracts of functions that get a pointer to a struct of the caller's own, and of functions that may panic; their calls. -/
namespace Go.Sim
open Go.RowKit
inductive Out where
 | ret (y : DV)
 | pan (v : Value)
def qQp (o : Out) (e : Ending) (K : DV -> Value -> Prop) : Prop := match o with
 | .ret y => ∃ v, e = .returned v /\ K y v
 | .pan v => e = .panicked (pan v)
structure BelowB (b : Nat) (w w' : World) : Prop where
 os : w'.os = w.os
 tape : w'.tape = w.tape
 output : w'.output = w.output
 size : w.heap.size <= w'.heap.size
 old : ∀ k, k < w.heap.size -> k ≠ b -> w'.heap[k]? = w.heap[k]?
def OneB (b : Nat) : Nat -> Nat -> Prop := fun i k => i = 1000000 /\ k = b
def AFnB (P : Program) (f : FuncId) (T : TypeId) (sz : Nat) (x : DV) (xs : List DV) (o : Out) (x' : DV) : Prop := FnOk P f /\
 ∀ (F : Nat -> Prop) (w : World) (b : Nat) (cur : Array Value) (vs : List Value), GOk (OneB b) w -> w.heap[b]? = some (.cells cur T (0, 0)) -> cur.size = sz -> ¬ F b -> RepD w F x cur.toList -> All2 (RepV w F) xs vs ->
  Calls P f (Value.pointer (some ⟨b, 0, none⟩) :: vs).toArray w fun e w' => BelowB b w w' /\ qQp o e fun y v =>
   (∃ cur', w'.heap[b]? = some (.cells cur' T (0, 0)) /\ cur'.size = sz /\ RepD w' (fun k => k ≠ b /\ (F k \/ w.heap.size <= k)) x' cur'.toList) /\ RepV w' (fun k => k ≠ b /\ (F k \/ w.heap.size <= k)) y v
def qT2 (T : Tab) (rs : List ResultVar) (Ty : TypeId) (sz : Nat) (o : Out) (x' : DV) : q1f -> St -> Prop
 | .exit _, _ => False
 | .panic v, _ => o = .pan v
 | _, σ => ∃ ds, resL T σ rs = some ds /\ o = .ret (fin ds) /\ σ.obj 1000000 = some (.box Ty sz (.dat x'))
section
variable {P : Program} {T : Tab}
theorem AFnB.intro {f : FuncId} {fn : Func} {c : Code} {Ty : TypeId} {sz : Nat} {x : DV} {xs : List DV} {o : Out} {x' : DV} (hT : q0r P T) (hf : P.funcs[f]? = some fn) (hb : fn.body = some c) (hn : (fn.name == "runtime.NumGoroutine") = false)
    (hl : xs.length + 1 <= fn.ntmps) (hnl : fn.ntmps <= 1000000) (hw : ∀ b, AWp P (OneB b) fn.ntmps c (mkSt ((0, .pt 1000000 [] 0) :: argL 1 xs) [(1000000, .box Ty sz (.dat x))]) (qT2 T fn.results.toList Ty sz o x')) : AFnB P f Ty sz x xs o x' := by
  refine ⟨⟨fn, hf, hn, by rw [hb]; rfl⟩, fun F w b cur vs hgl hcur hsz hFb hrx hvs => ?_⟩
  have hlen := All2.length hvs
  have hbl : b < w.heap.size := (Array.getElem?_eq_some_iff.1 hcur).1
  refine calls_of_wp hf hb (wp_mono (hw b ⟨F, []⟩ w _ w ⟨{ S := fun k => F k /\ k < w.heap.size, blk := fun _ => b, hdr := fun _ => .bool true, has := fun i => i = 1000000, sub := fun _ _ _ => False }, ?_⟩) fun e a' w' hp => ?_)
  · refine { os := rfl, tape := rfl, output := rfl, size := Nat.le_refl _, old := fun _ _ _ => rfl, n := ?_, nlt := hnl, glob := hgl, defers := rfl, sF := fun k hk => .inl hk.1, sB := fun k hk => hk.2, own := fun i hi => ⟨fun h => hFb h.1, .inr ⟨by omega, hi, rfl⟩, hbl⟩, dj := fun i j hij hi hj => absurd (hi.trans hj.symm) hij, slots := fun i => ?_, objs := fun i => ?_, ok := ?_, hv := fun _ => rfl, sub := fun i j b hb => hb.elim }
    · simp; omega
    · simp only [mkSt, look]
      split
      · rename_i hi
        have := Nat.eq_of_beq_eq_true hi
        subst this
        rw [Array.getD_eq_getD_getElem?, Array.getElem?_append_left (by simp)]
        simp [RepS]
      · rename_i hi
        have hi0 : i ≠ 0 := fun e => hi (by rw [e]; rfl)
        rw [q5u]
        split
        · rename_i h1
          split
          · rename_i y hy
            obtain ⟨u, hu, hr⟩ := hvs.get hy
            have hlt : i - 1 < vs.length := (List.getElem?_eq_some_iff.1 hu).1
            have : ((Value.pointer (some ⟨b, 0, none⟩) :: vs).toArray ++ Array.replicate (fn.ntmps - (Value.pointer (some ⟨b, 0, none⟩) :: vs).toArray.size) undef).getD i undef = u := by
              obtain ⟨m, rfl⟩ : ∃ m, i = m + 1 := ⟨i - 1, by omega⟩
              rw [Array.getD_eq_getD_getElem?, Array.getElem?_append_left (by simp; omega)]
              simp at hu
              simp [hu]
            rw [this]
            exact RepV.restrict hr
          · trivial
        · trivial
    · simp only [mkSt, q0v]
      split
      · rename_i hi
        have := Nat.eq_of_beq_eq_true hi
        subst this
        simp only [RepO, RepA]
        exact ⟨trivial, cur, hcur, hsz, RepD.restrict _ _ hrx⟩
      · rename_i hi
        simp only [RepO]
        exact fun e => hi (by rw [e]; rfl)
    · refine ⟨fun i k hk => ?_, fun i T' sz' x0 hi k hk => ?_, fun i T' E' sz' xss hs hi => ?_⟩
      · simp only [mkSt, look] at hk ⊢
        split at hk
        · simp only [AV.refs] at hk; subst hk; simp [q0v]
        · rw [q5u] at hk
          split at hk
          · split at hk <;> simp [AV.refs] at hk
          · simp [AV.refs] at hk
      · simp only [mkSt, q0v] at hi
        split at hi
        · cases hi; simp [AV.refs] at hk
        · cases hi
      · simp only [mkSt, q0v] at hi
        split at hi <;> cases hi
  · have fin : ∀ (σ : St) (ds : List DV), resL T σ fn.results.toList = some ds -> o = .ret (Sim.fin ds) -> σ.obj 1000000 = some (.box Ty sz (.dat x')) -> Rel (OneB b) ⟨F, []⟩ w fn.ntmps σ a' w' -> a'.defers = [] /\ ∃ v, (results fn a'.tmps).run P w' = .ok v w' /\
        (BelowB b w w' /\ qQp o (.returned v) fun y v =>
          (∃ cur', w'.heap[b]? = some (.cells cur' Ty (0, 0)) /\ cur'.size = sz /\ RepD w' (fun k => k ≠ b /\ (F k \/ w.heap.size <= k)) x' cur'.toList) /\ RepV w' (fun k => k ≠ b /\ (F k \/ w.heap.size <= k)) y v) := by
      rintro σ ds h1 rfl h2 ⟨g, rg⟩
      obtain ⟨v, hv, hrep⟩ := qAb hT rg h1
      have hO := rg.objs 1000000
      rw [h2] at hO
      simp only [RepO, RepA] at hO
      obtain ⟨m1, cur', m2, m3, m4⟩ := hO
      obtain ⟨k1, k2, k3⟩ := rg.own 1000000 m1
      have hblk : g.blk 1000000 = b := by
        rcases k2 with ⟨h, _⟩ | ⟨_, _, h⟩
        · omega
        · exact h
      rw [hblk] at m2 k1
      have hS : ∀ k, g.S k -> k ≠ b /\ (F k \/ w.heap.size <= k) := fun k hk => ⟨fun e => k1 (e ▸ hk), rg.sF k hk⟩
      refine ⟨rg.defers, v, hv, ⟨rg.os, rg.tape, rg.output, rg.size, fun k hk hne => rg.old k hk (fun i h => hne h.2)⟩, v, rfl, ⟨cur', m2, m3, RepD.frame hS (fun _ _ _ => rfl) _ _ m4⟩, RepV.frame (fun k hk => ?_) (fun _ _ _ => rfl) hrep⟩
      rcases hk with hk | ⟨id, E, sz', xs', ho, h2', rfl⟩
      · exact hS k hk
      · have hne : id ≠ 1000000 := fun e => by rw [e, h2] at ho; cases ho
        obtain ⟨n1, n2, n3⟩ := rg.own id h2'
        refine ⟨fun e => rg.dj id 1000000 hne h2' m1 (by rw [e, hblk]), .inr ?_⟩
        rcases n2 with ⟨_, h⟩ | ⟨_, h, _⟩
        · exact h
        · exact absurd h hne
    cases e with
    | normal => obtain ⟨σ, ⟨ds, h1, h2, h3⟩, h4⟩ := hp; exact fin σ ds h1 h2 h3 h4
    | ret => obtain ⟨σ, ⟨ds, h1, h2, h3⟩, h4⟩ := hp; exact fin σ ds h1 h2 h3 h4
    | exit i => obtain ⟨σ, h1, h3⟩ := hp; exact h1
    | goto l => exact hp.elim
    | panic ch =>
      obtain ⟨v, σ, rfl, h, hw', hd⟩ := hp
      have h' : o = .pan v := h
      subst h'
      exact ⟨hd, ⟨hw'.os, hw'.tape, hw'.output, hw'.size, fun k hk hne => hw'.old k hk (fun i h => hne h.2)⟩, rfl⟩
    | outgrown => exact hp.elim
theorem RelG.called {B : Nat -> Nat -> Prop} {F : Cx} {w0 w w' : World} {n : Nat} {σ : St} {a : Act} {g : Gh} (h : RelG B F w0 n σ a w g) {id : Nat} (hid : g.has id) (hb : BelowB (g.blk id) w w') {Ty : TypeId} {sz : Nat} {x' : DV} {cur : Array Value}
    (h1 : w'.heap[g.blk id]? = some (.cells cur Ty (0, 0))) (h2 : cur.size = sz) (h3 : RepD w' (fun k => k ≠ g.blk id /\ (g.S k \/ w.heap.size <= k)) x' cur.toList) :
    RelG B F w0 n (σ.set id (.box Ty sz (.dat x'))) a w' { g with S := fun k => g.S k \/ (w.heap.size <= k /\ k < w'.heap.size) } := by
  obtain ⟨k1, k2, k3⟩ := h.own id hid
  have hS : ∀ k, g.S k -> g.S k \/ (w.heap.size <= k /\ k < w'.heap.size) := fun _ hk => .inl hk
  have hm : ∀ k, g.S k -> k < w.heap.size -> w'.heap[k]? = w.heap[k]? := fun k hk hlt => hb.old k hlt (fun e => k1 (e ▸ hk))
  refine { os := hb.os.trans h.os, tape := hb.tape.trans h.tape, output := hb.output.trans h.output, size := Nat.le_trans h.size hb.size, old := fun k hk hB => ?_, n := h.n, nlt := h.nlt, glob := h.glob, defers := h.defers, sF := ?_, sB := ?_, own := ?_, dj := h.dj, slots := ?_, objs := ?_, ok := q50 h.ok (fun _ _ _ e k hk => by cases e; simp [AV.refs] at hk), hv := h.hv, sub := ?_ }
  · rw [hb.old k (Nat.lt_of_lt_of_le hk h.size)]
    · exact h.old k hk hB
    · intro e
      obtain ⟨j, hj⟩ := Mine.old k2 (e ▸ hk)
      exact hB j (e ▸ hj)
  · rintro k (hk | hk)
    · exact h.sF k hk
    · exact .inr (Nat.le_trans h.size hk.1)
  · rintro k (hk | hk)
    · exact Nat.lt_of_lt_of_le (h.sB k hk) hb.size
    · exact hk.2
  · intro i hi
    obtain ⟨m1, m2, m3⟩ := h.own i hi
    exact ⟨fun hs => hs.elim m1 (fun hs => Nat.not_lt_of_le hs.1 m3), m2, Nat.lt_of_lt_of_le m3 hb.size⟩
  · exact h.slots' (g' := { g with S := fun k => g.S k \/ (w.heap.size <= k /\ k < w'.heap.size) }) hS hm (fun _ _ => rfl) (fun _ _ => rfl)
  · intro i
    rw [St.obj_set]
    by_cases he : i = id
    · subst he
      simp only [if_true, RepO, RepA]
      refine ⟨hid, cur, h1, h2, RepD.frame (fun k hk => ?_) (fun _ _ _ => rfl) _ _ (RepD.restrict _ _ h3)⟩
      rcases hk with ⟨⟨_, hk⟩, hlt⟩
      exact hk.imp id (fun hk => ⟨hk, hlt⟩)
    · simp only [if_neg he]
      exact RepO.frame h (g' := { g with S := fun k => g.S k \/ (w.heap.size <= k /\ k < w'.heap.size) }) hS hm (fun _ _ => rfl) (fun _ _ => rfl) i Iff.rfl (fun hi => hb.old _ (h.own i hi).2.2 (fun e => h.dj i id he hi hid e)) (fun _ _ hb' => hb') (fun j b hb' => hb.old b (h.sub i j b hb').2.2.1 (fun e => (h.sub i j b hb').2.2.2.1 id hid e.symm))
  · intro i j b hb'
    obtain ⟨m1, m2, m3, m4, m5⟩ := h.sub i j b hb'
    exact ⟨fun hs => hs.elim m1 (fun hs => by omega), m2, Nat.lt_of_lt_of_le m3 hb.size, m4, m5⟩
theorem BelowB.wok {B : Nat -> Nat -> Prop} {F : Cx} {w0 w w' : World} {n : Nat} {σ : St} {a : Act} {g : Gh} (h : RelG B F w0 n σ a w g) {id : Nat} (hid : g.has id) (hb : BelowB (g.blk id) w w') : WOk B w0 w' where
 os := hb.os.trans h.os
 tape := hb.tape.trans h.tape
 output := hb.output.trans h.output
 size := Nat.le_trans h.size hb.size
 old := fun k hk hB => by
  rw [hb.old k (Nat.lt_of_lt_of_le hk h.size)]
  ·exact h.old k hk hB
  ·intro e
   obtain ⟨j, hj⟩ := Mine.old (h.own id hid).2.1 (e ▸ hk)
   exact hB j (e ▸ hj)
end
section
variable {P : Program} {N : Value -> Prop} {T : Tab} {σ : St}
theorem Step.callB {o : Oper} {f : FuncId} {x0 : Operand} {args : List Operand} {ats : Array TypeId} {id : Nat} {Ty : TypeId} {sz : Nat} {x x' : DV} {xs : List DV} {y : DV}
    (ho : o.op = .call { callee := .value (.func f), args := (x0 :: args).toArray, argTypes := ats }) (hc : AFnB P f Ty sz x xs (.ret y) x') (hx0 : ev σ x0 = .pt id [] 0) (hob : σ.obj id = some (.box Ty sz (.dat x))) (ha : q3t σ false args xs) :
    Step P N true σ o ⟨.dat y, [(id, .box Ty sz (.dat x'))]⟩ where
  ok := by
    rintro σ' ⟨g1, g2, g3⟩ B F w0 n a w hd ⟨g, r⟩ Q _
    have hops : ∀ z ∈ x0 :: args, z ∈ o.op.operands := fun z hz => by rw [ho]; simp [Op.operands, Call.operands] at hz ⊢; rcases hz with hz | hz <;> simp [hz]
    have hl : looks o = true := by simp [looks, ho]
    have ha' := q5p args xs (fun z hz => g1 z (hops z (List.mem_cons_of_mem _ hz))) (fun z hz => g3 hl z (hops z (List.mem_cons_of_mem _ hz))) ha
    have hrep := q72 r args xs ha'
    have hob' : σ'.obj id = some (.box Ty sz (.dat x)) := by rw [g3 hl x0 (hops x0 (List.mem_cons_self ..)) id (by rw [hx0]; simp [AV.refs])]; exact hob
    have hev := ev_rep r x0
    rw [g1 x0 (hops x0 (List.mem_cons_self ..)), hx0] at hev
    simp only [RepS] at hev
    have hO := r.objs id
    rw [hob'] at hO
    simp only [RepO, RepA] at hO
    obtain ⟨m1, cur, m2, m3, m4⟩ := hO
    obtain ⟨⟨fn, hf, hname, hbody⟩, hcalls⟩ := hc
    have hS : ∀ k, (g.S k \/ (false = true /\ ∃ id, g.has id /\ k = g.blk id)) -> g.S k := fun k hk => hk.elim (fun h => h) (fun h => by cases h.1)
    have hrep' : All2 (RepV w g.S) xs (args.map a.eval) := hrep.imp fun z u hz => RepV.frame hS (fun _ _ _ => rfl) hz
    have hcall := hcalls g.S w (g.blk id) cur _ (r.gok fun i k h hk => by rw [h.2] at hk ⊢; exact (r.own id m1).2.1.old hk) m2 m3 (r.own id m1).1 m4 hrep'
    unfold Oper.wp
    have hrun : (execOp a.eval o).run P w = .ok (.enter f (Value.pointer (some ⟨g.blk id, 0, none⟩) :: args.map a.eval).toArray) w := by
      simp only [execOp, ho, resolve, Act.eval, Deferred.ofValue, Sem.run_bind, Sem.run_pure, Result.andThen_ok, invoke, callFunc, run_program, hf, hname, hbody]
      simpa [Act.eval] using hev
    rw [hrun, Oper.upon_enter]
    refine hcall.mono ?_
    rintro e w' ⟨hb, v, rfl, ⟨cur', c1, c2, c3⟩, hv⟩
    have r2 := r.called m1 hb c1 c2 c3
    refine ⟨_, RelG.putO r2 o.dst (x := .dat y) (RepV.frame (fun k hk => ?_) (fun _ _ _ => rfl) hv.restrict) (fun k hk => by simp [AV.refs] at hk) hd⟩
    rcases hk with ⟨⟨_, hk⟩, hlt⟩
    exact hk.imp (fun hk => hk) (fun hk => ⟨hk, hlt⟩)
  objs := fun p hp => by
    simp only [List.mem_singleton] at hp
    subst hp
    exact .inr ⟨rfl, by simp [looks, ho], x0, by simp [wr, ho, Op.operands, Call.operands], by rw [hx0]; simp [AV.refs]⟩
  okk := fun σ' hA ok => by
    have h1 := q50 ok (d := id) (o := .box Ty sz (.dat x')) (fun _ _ _ e k hk => by cases e; simp [AV.refs] at hk)
    refine ⟨fun i k hk => ?_, q9j (q1r _ _ _) h1.2⟩
    rw [q3p] at hk
    rw [q1r]
    split at hk
    · simp [AV.refs] at hk
    · exact h1.1 i k hk
  near := fun y h => by rw [ho] at h; simp [carry] at h
end
theorem RelG.freezemp {B : Nat -> Nat -> Prop} {F : Cx} {w0 w : World} {n : Nat} {σ : St} {a : Act} {g : Gh} (h : RelG B F w0 n σ a w g) {id : Nat} (hid : id < 1000000) {ks : List Value} {xs : List DV} (hobj : σ.obj id = some (.mp ks xs)) :
    RelG B F w0 n (σ.set id .gone) a w { g with S := fun k => g.S k \/ (g.has id /\ k = g.blk id), has := upd g.has id False } /\
      RepD w (fun k => g.S k \/ (g.has id /\ k = g.blk id)) (.mp ks xs) [g.hdr id] := by
  have hS : ∀ k, g.S k -> g.S k \/ (g.has id /\ k = g.blk id) := fun _ hk => .inl hk
  constructor
  · refine { os := h.os, tape := h.tape, output := h.output, size := h.size, old := h.old, n := h.n, nlt := h.nlt, glob := h.glob, defers := h.defers, sF := ?_, sB := ?_, own := ?_, dj := ?_, slots := ?_, objs := ?_, ok := q50 h.ok (fun _ _ _ e => by cases e), hv := h.hv, sub := h.subFreeze id }
    · rintro k (hk | ⟨hk, rfl⟩)
      · exact h.sF k hk
      · exact .inr ((h.own id hk).2.1.new hid)
    · rintro k (hk | ⟨hk, rfl⟩)
      · exact h.sB k hk
      · exact (h.own id hk).2.2
    · intro i hi
      by_cases he : i = id
      · subst he; simp [q0b] at hi
      · simp only [q0j _ _ _ he] at hi
        obtain ⟨m1, m2, m3⟩ := h.own i hi
        exact ⟨fun hs => hs.elim m1 (fun ⟨k1, k2⟩ => h.dj i id he hi k1 k2), m2, m3⟩
    · intro i j hij hi hj
      by_cases he : i = id
      · subst he; simp [q0b] at hi
      · by_cases he' : j = id
        · subst he'; simp [q0b] at hj
        · simp only [q0j _ _ _ he, q0j _ _ _ he'] at hi hj; exact h.dj i j hij hi hj
    · exact h.slots' (g' := { g with S := fun k => g.S k \/ (g.has id /\ k = g.blk id), has := upd g.has id False }) hS (fun k _ _ => rfl) (fun _ _ => rfl) (fun _ _ => rfl)
    · intro i
      rw [St.obj_set]
      by_cases he : i = id
      · subst he; simp [RepO, q0b]
      · simp only [if_neg he]
        exact RepO.frame h (g' := { g with S := fun k => g.S k \/ (g.has id /\ k = g.blk id), has := upd g.has id False }) hS (fun k _ _ => rfl) (fun _ _ => rfl) (fun _ _ => rfl) i (by simp only [q0j _ _ _ he]) (fun _ => rfl) (fun _ _ hb => hb) (fun _ _ _ => rfl)
  · have ho := h.objs id
    rw [hobj] at ho
    simp only [RepO] at ho
    obtain ⟨h1, h2, es, clock, h3, h4, h5⟩ := ho
    simp only [RepD]
    exact ⟨g.blk id, es, clock, by rw [h2], .inr ⟨h1, rfl⟩, h3, h4, RepE.frame hS (fun k _ _ => rfl) _ _ h5⟩
theorem AWp.freezemp {P : Program} {B : Nat -> Nat -> Prop} {n : Nat} {c : Code} {Q : q1f -> St -> Prop} {L : List (Nat × AV)} {O : List (Nat × Obj)} (i id : Nat) {ks : List Value} {xs : List DV} (hi : look L i = .oref id) (ho : q0v O id = some (.mp ks xs))
    (h : AWp P B n c (mkSt ((i, .dat (.mp ks xs)) :: L) ((id, .gone) :: O)) Q) (hid : id < 1000000 := by decide) : AWp P B n c (mkSt L O) Q := by
  rintro F w0 a w ⟨g, r⟩
  obtain ⟨r', hrep⟩ := r.freezemp hid ho
  refine h F w0 a w ⟨_, { os := r'.os, tape := r'.tape, output := r'.output, size := r'.size, old := r'.old, n := r'.n, nlt := r'.nlt, glob := r'.glob, defers := r'.defers, sF := r'.sF, sB := r'.sB, own := r'.own, dj := r'.dj, slots := fun j => ?_, objs := r'.objs, ok := ⟨fun j k hk => ?_, r'.ok.2⟩, hv := r'.hv, sub := r'.sub }⟩
  · have hs := r'.slots j
    simp only [mkSt, look] at hs ⊢
    split
    · rename_i hj
      have := Nat.eq_of_beq_eq_true hj
      subst this
      have hs' : RepS w _ (look L j) (a.tmps.getD j undef) := hs
      rw [hi] at hs'
      simp only [RepS] at hs' ⊢
      simp only [RepV]
      rw [hs']
      exact hrep
    · exact hs
  · simp only [mkSt, look] at hk
    split at hk
    · simp [AV.refs] at hk
    · exact r'.ok.1 j k hk
end Go.Sim
