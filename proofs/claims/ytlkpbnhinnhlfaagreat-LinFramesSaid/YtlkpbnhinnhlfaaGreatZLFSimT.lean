/- What is proved: regions that run in their text's order, operation by operation; functions of whose result a property alone is told, and their calls. -/
import Derived.Test.YtlkpbnhinnhlfaaGreatZLFSimS
import Derived.Test.YtlkpbnhinnhlfaaGreatZLFSimH

namespace Go.Sim
open Go.RowKit
section
variable {P : Program} {B : Nat → Nat → Prop} {n : Nat} {ops : Array Oper} {Q : AExit → St → Prop} {T : Tab}
/-- What is left of a region that runs in its text's order. -/
def NOps (P : Program) (B : Nat → Nat → Prop) (n : Nat) (ops : Array Oper) (Q : AExit → St → Prop) (l : List Oper) (σ : St) : Prop :=
  ∀ (F : Cx) (w0 : World) (a : Act) (w : World), Rel B F w0 n σ a w → wpOps P ops (post B F w0 n Q) (List.range' (ops.size - l.length) l.length) a w
/-- Up to a place, then the rest. -/
@[reducible] def KN (P : Program) (B : Nat → Nat → Prop) (n : Nat) (ops : Array Oper) (Q : AExit → St → Prop) (m : List Oper) : AExit → St → Prop
  | .normal, σ => NOps P B n ops Q m σ
  | .panic v, σ => Q (.panic v) σ
  | _, _ => False
theorem NOps.seg {cf : Oper → Bool} (hd : dstOk n ops.toList = true) {m : List Oper} : ∀ (l : List Oper) (σ : St), ops.toList.drop (ops.size - (l ++ m).length) = l ++ m → AOps P ops cf (KN P B n ops Q m) l σ → NOps P B n ops Q (l ++ m) σ
  | [], _, _, h => h
  | o :: l, σ, hl, h => by
    intro F w0 a w r
    obtain ⟨e, he, hrest⟩ := h
    have hlen := congrArg List.length hl
    simp only [List.length_drop, Array.length_toList, List.cons_append, List.length_cons, List.length_append] at hlen
    have h0 : ops[ops.size - (o :: l ++ m).length]? = some o := by
      have := congrArg (fun z => z[0]?) hl
      simpa using this
    rw [List.cons_append, List.length_cons, List.range'_succ, wpOps_cons]
    refine gstep_wp (N := panOf (KN P B n ops Q m)) h0 (fun d hd' => dstOk_spec hd (Array.mem_toList_iff.2 (Array.mem_of_getElem? h0)) d hd') r he (fun v a' w' hv h1 h2 => ?_) (fun a' w' r' => ?_)
    · obtain ⟨σ', hv⟩ := hv
      exact ⟨v, σ', rfl, hv, h1, h2⟩
    · have ih := NOps.seg hd l _ (by
        have := congrArg (List.drop 1) hl
        rw [List.drop_drop] at this
        simp only [List.cons_append, List.drop_succ_cons, List.drop_zero, List.length_cons, List.length_append] at this ⊢
        rw [← this]
        congr 1
        omega) hrest F w0 a' w' r'
      have e : ops.size - (l ++ m).length = ops.size - ((l ++ m).length + 1) + 1 := by
        simp only [List.length_append] at hlen ⊢
        omega
      rw [e] at ih
      exact ih
theorem NOps.nil {σ : St} (h : Q .normal σ) : NOps P B n ops Q [] σ := by
  intro F w0 a w r
  simpa [wpOps] using ⟨σ, h, r⟩
/-- A region that runs in its text's order. -/
theorem AWp.regionL {id : Nat} {σ : St} (h : NOps P B n ops Q ops.toList σ) : AWp P B n (.region id ops false) σ Q := by
  intro F w0 a w r
  refine wp_region ?_
  have := h F w0 a w r
  simpa [List.range_eq_range'] using this
/-- What a function does of whose result a property alone is told. -/
def AFnS (P : Program) (f : FuncId) (xs : List DV) (S : DV → Prop) : Prop := FnOk P f ∧
  ∀ (F : Nat → Prop) (w : World) (vs : List Value), GOk NoB w → All2 (RepV w F) xs vs →
    Calls P f vs.toArray w fun e w' => Below w.heap.size w w' ∧ ∃ y v, S y ∧ e = .returned v ∧ RepV w' (fun k => F k ∨ w.heap.size ≤ k) y v
theorem AFnS.mono {f : FuncId} {xs : List DV} {S S' : DV → Prop} (h : AFnS P f xs S) (hS : ∀ y, S y → S' y) : AFnS P f xs S' :=
  ⟨h.1, fun F w vs hg hv => (h.2 F w vs hg hv).mono fun _ _ ⟨h1, y, v, h2, h3⟩ => ⟨h1, y, v, hS y h2, h3⟩⟩
def outQS (T : Tab) (rs : List ResultVar) (S : DV → Prop) : AExit → St → Prop
  | .exit _, _ => False
  | .panic _, _ => False
  | _, σ => ∃ ds, resL T σ rs = some ds ∧ S (fin ds)
theorem AFnS.intro {f : FuncId} {fn : Func} {c : Code} {xs : List DV} {S : DV → Prop} (hT : TabOk P T) (hf : P.funcs[f]? = some fn) (hb : fn.body = some c) (hn : (fn.name == "runtime.NumGoroutine") = false)
    (hl : xs.length ≤ fn.ntmps) (hnl : fn.ntmps ≤ 1000000) (hw : AWp P NoB fn.ntmps c (mkSt (argL 0 xs) []) (outQS T fn.results.toList S)) : AFnS P f xs S := by
  refine ⟨⟨fn, hf, hn, by rw [hb]; rfl⟩, fun F w vs hgl hvs => ?_⟩
  have hlen := All2.length hvs
  refine calls_of_wp hf hb (wp_mono (hw ⟨F, []⟩ w _ w ⟨{ S := fun k => F k ∧ k < w.heap.size, blk := fun _ => 0, hdr := fun _ => .bool true, has := fun _ => False, sub := fun _ _ _ => False }, ?_⟩) fun e a' w' hp => ?_)
  · refine { os := rfl, tape := rfl, output := rfl, size := Nat.le_refl _, old := fun _ _ _ => rfl, n := ?_, nlt := hnl, glob := hgl, defers := rfl, sF := fun k hk => .inl hk.1, sB := fun k hk => hk.2, own := fun i hi => hi.elim, dj := fun i j _ hi => hi.elim, slots := fun i => ?_, objs := fun i => ?_, ok := ?_, hv := fun _ => rfl, sub := fun i j b hb => hb.elim }
    · simp; omega
    · simp only [mkSt, look_argL, Nat.zero_le, if_true, Nat.sub_zero]
      split
      · rename_i x hx
        obtain ⟨u, hu, hr⟩ := hvs.get hx
        have hi : i < vs.length := (List.getElem?_eq_some_iff.1 hu).1
        have : (vs.toArray ++ Array.replicate (fn.ntmps - vs.toArray.size) undef).getD i undef = u := by
          rw [Array.getD_eq_getD_getElem?, Array.getElem?_append_left (by simpa using hi)]
          simp [hu]
        rw [this]
        exact RepV.restrict hr
      · trivial
    · simp [mkSt, lookO, RepO]
    · refine ⟨fun i k hk => ?_, fun i T sz x hi => by simp [mkSt, lookO] at hi, fun i T E sz xss hs hi => by simp [mkSt, lookO] at hi⟩
      simp only [mkSt, look_argL] at hk
      split at hk
      · split at hk <;> simp [AV.refs] at hk
      · simp [AV.refs] at hk
  · have fin : ∀ (σ : St) (ds : List DV), resL T σ fn.results.toList = some ds → S (Sim.fin ds) → Rel NoB ⟨F, []⟩ w fn.ntmps σ a' w' → a'.defers = [] ∧ ∃ v, (results fn a'.tmps).run P w' = .ok v w' ∧
        (Below w.heap.size w w' ∧ ∃ y v', S y ∧ Ending.returned v = .returned v' ∧ RepV w' (fun k => F k ∨ w.heap.size ≤ k) y v') := by
      rintro σ ds h1 hS ⟨g, rg⟩
      obtain ⟨v, hv, hrep⟩ := results_run hT rg h1
      refine ⟨rg.defers, v, hv, ⟨rg.os, rg.tape, rg.output, rg.size, fun k hk => rg.old k hk (fun _ h => h)⟩, _, v, hS, rfl, RepV.frame (fun k hk => ?_) (fun _ _ _ => rfl) hrep⟩
      rcases hk with hk | ⟨id, _, _, _, _, h2, rfl⟩
      · exact rg.sF k hk
      · exact .inr ((rg.own id h2).2.1.elim (fun h => h.2) (fun h => h.2.elim))
    cases e with
    | normal => obtain ⟨σ, ⟨ds, h1, h2⟩, h4⟩ := hp; exact fin σ ds h1 h2 h4
    | ret => obtain ⟨σ, ⟨ds, h1, h2⟩, h4⟩ := hp; exact fin σ ds h1 h2 h4
    | exit i => obtain ⟨σ, h1, h3⟩ := hp; exact h1.elim
    | goto l => exact hp.elim
    | panic ch => obtain ⟨v, σ, _, h, _⟩ := hp; exact h.elim
    | outgrown => exact hp.elim
/-- A call of whose result a property alone is told. -/
theorem NOps.callS {σ : St} {o : Oper} {rest : List Oper} {f : FuncId} {args : List Operand} {ats : Array TypeId} {xs : List DV} {S : DV → Prop} {d : Nat} (hs : ops.toList.drop (ops.size - (rest.length + 1)) = o :: rest) (hc : AFnS P f xs S) (hg : o.guard = none)
    (ho : o.op = .call { callee := .value (.func f), args := args.toArray, argTypes := ats }) (hd : o.dst = some d) (hdn : d < n) (ha : argsOk σ false args xs) (k : ∀ y, S y → NOps P B n ops Q rest (σ.put d (.dat y))) : NOps P B n ops Q (o :: rest) σ := by
  rintro F w0 a w ⟨g, r⟩
  have hlen := congrArg List.length hs
  simp only [List.length_drop, Array.length_toList, List.length_cons] at hlen
  have h0 : ops[ops.size - (rest.length + 1)]? = some o := by
    have := congrArg (fun z => z[0]?) hs
    simpa using this
  rw [List.length_cons, List.range'_succ, wpOps_cons]
  unfold wpOp
  simp only [h0]
  have hw : Region.wanted o (yielded ops a.tmps) = true := by simp [Region.wanted, hg]
  rw [if_pos hw]
  refine .inl ?_
  have hrep := argsOk_rep r args xs ha
  obtain ⟨⟨fn, hf, hname, hbody⟩, hcalls⟩ := hc
  have hcall := hcalls _ w _ (r.gok fun _ _ h => h.elim) hrep
  unfold Oper.wp
  have hrun : (execOp a.eval o).run P w = .ok (.enter f (args.map a.eval).toArray) w := by
    simp only [execOp, ho, resolve, Act.eval, Deferred.ofValue, Sem.run_bind, Sem.run_pure, Result.andThen_ok, invoke, callFunc, run_program, hf, hname, hbody]
    simp
  rw [hrun, Oper.upon_enter]
  refine hcall.mono ?_
  rintro e w' ⟨hb, y, v, hS, rfl, hv⟩
  have hw' := r.world (w' := w') hb.os hb.tape hb.output hb.size hb.block (fun k => w.heap.size ≤ k ∧ k < w'.heap.size) (fun k hk => hk)
  have r2 := RelG.putO hw' o.dst (x := .dat y) (RepV.frame (fun k hk => ?_) (fun _ _ _ => rfl) hv.restrict) (fun k hk => by simp [AV.refs] at hk) (fun d' hd' => by rw [hd] at hd'; cases hd'; exact hdn)
  · rw [hd] at r2
    have := k y hS F w0 _ w' ⟨_, r2⟩
    have e : ops.size - rest.length = ops.size - (rest.length + 1) + 1 := by omega
    rw [e] at this
    rw [hd]
    exact this
  · obtain ⟨hk, hlt⟩ := hk
    rcases hk with hk | hk
    · rcases hk with hk | ⟨h1, _⟩
      · exact .inl hk
      · cases h1
    · exact .inr ⟨hk, hlt⟩
end
end Go.Sim
