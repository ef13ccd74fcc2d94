/- What is proved: a contract out of the rules for its function's code, and a call by a contract. -/
import Derived.Test.YtnhflokfcnfegaaSim12
namespace Go.Sim
open Go.RowKit

def argL : Nat → List DV → List (Nat × AV)
  | _, [] => []
  | i, x :: xs => (i, .dat x) :: argL (i + 1) xs

theorem look_argL : ∀ (xs : List DV) (k i : Nat), look (argL k xs) i = if k ≤ i then (match xs[i - k]? with | some x => .dat x | none => .dead) else .dead
  | [], k, i => by simp [argL, look]
  | x :: xs, k, i => by
    simp only [argL, look, look_argL xs]
    by_cases h : i = k
    · subst h; simp
    · have : Nat.beq i k = false := by
        cases hb : Nat.beq i k with
        | false => rfl
        | true => exact absurd (Nat.eq_of_beq_eq_true hb) h
      rw [this]
      simp only [Bool.false_eq_true, if_false]
      by_cases h2 : k ≤ i
      · rw [if_pos (by omega), if_pos h2]
        obtain ⟨m, hm⟩ : ∃ m, i - k = m + 1 := ⟨i - k - 1, by omega⟩
        rw [show i - (k + 1) = m by omega, hm]
        simp
      · rw [if_neg (by omega), if_neg h2]

def resV (T : Tab) (σ : St) : ResultVar → Option DV
  | .tmp t => match σ.slot t with
    | .dat (.tup _) => none
    | .dat x => some x
    | .oref id => match σ.obj id with | some (.row E sz xs) => some (.sl E sz xs) | _ => none
    | _ => none
  | .cell t ty => match σ.slot t with
    | .pt id [] 0 => match σ.obj id, tget T ty with
      | some (.box _ _ (.dat x)), some te => if te.d.agg = x.agg ∧ (x.agg = true → te.size = x.len) then some x else none
      | _, _ => none
    | _ => none

def resL (T : Tab) (σ : St) : List ResultVar → Option (List DV)
  | [] => some []
  | r :: rs => match resV T σ r, resL T σ rs with | some x, some xs => some (x :: xs) | _, _ => none

def fin : List DV → DV
  | [x] => x
  | xs => .tup xs

def outQ (T : Tab) (rs : List ResultVar) (y : DV) : AExit → St → Prop
  | .exit _, _ => False
  | _, σ => ∃ ds, resL T σ rs = some ds ∧ fin ds = y

section
variable {P : Program} {T : Tab}

def allS (g : Gh) : Nat → Prop := fun k => g.S k ∨ ∃ id, g.has id ∧ k = g.blk id

theorem row_sl {B F : Nat → Prop} {w0 w : World} {n : Nat} {σ : St} {a : Act} {g : Gh} (h : RelG B F w0 n σ a w g) {id : Nat} {E : TypeId} {sz : Nat} {xs : List DV} (hobj : σ.obj id = some (.row E sz xs)) :
    RepD w (allS g) (.sl E sz xs) [g.hdr id] := by
  have ho := h.objs id
  rw [hobj] at ho
  simp only [RepO] at ho
  simp only [RepD]
  rcases ho with ⟨m1, rfl, m3⟩ | ⟨m1, c, cur, m2, m3, m4, m5, m6, m7⟩
  · exact ⟨none, 0, [], by simp [m3], by simp, by simp [RepF], .inl rfl⟩
  · refine ⟨_, c, _, by rw [m2], m5, RepF.frame (fun _ hk => .inl hk) (fun k _ _ => rfl) _ _ _ m7, .inr ⟨g.blk id, 0, rfl, .inr ⟨id, m1, rfl⟩, fun j u hj => ?_⟩⟩
    rw [cell_of_row w _ _ cur E (0, 0) m3]
    rw [List.getElem?_take] at hj
    split at hj
    · simpa using hj
    · cases hj

theorem resV_run (hT : TabOk P T) {B F : Nat → Prop} {w0 w : World} {n : Nat} {σ : St} {a : Act} {g : Gh} (h : RelG B F w0 n σ a w g) {r : ResultVar} {x : DV} (hr : resV T σ r = some x) :
    ∃ u, (match r with | .tmp t => (pure (a.tmps.getD t undef) : Sem Value) | .cell c t => do loadVar t (← asAddr (a.tmps.getD c undef))).run P w = .ok u w ∧ RepU w (allS g) x u := by
  cases r with
  | tmp t =>
    refine ⟨_, rfl, ?_⟩
    have hs := h.slots t
    simp only [resV] at hr
    split at hr
    · cases hr
    · rename_i y hy e
      simp only [Option.some.injEq] at hr
      subst hr
      rw [e] at hs
      exact RepV.u (RepV.frame (fun _ hk => .inl hk) (fun _ _ _ => rfl) hs) (fun zs hz => hy zs (by rw [hz]))
    · rename_i id e
      rw [e] at hs
      split at hr
      · rename_i E sz xs ho
        simp only [Option.some.injEq] at hr
        subst hr
        simp only [RepS] at hs
        rw [hs]
        exact .inr ⟨rfl, row_sl h ho⟩
      · cases hr
    · cases hr
  | cell c t =>
    simp only [resV] at hr
    split at hr
    · rename_i id e
      have hs := h.slots c
      rw [e] at hs
      simp only [RepS] at hs
      split at hr
      · rename_i T' sz y te ho hte
        split at hr
        · rename_i hcond
          simp only [Option.some.injEq] at hr
          subst hr
          have hO := h.objs id
          rw [ho] at hO
          simp only [RepO] at hO
          obtain ⟨h1, cur, h2, h3, h4⟩ := hO
          obtain ⟨u, hu, hrep⟩ := run_load_at (hT t te hte) (g := g) (y := .dat y) (cs := cur.toList) (b := g.blk id) (o := 0) h4 (fun j v hj => by
            rw [Nat.zero_add, cell_of_row w _ _ cur T' (0, 0) h2]; simpa using hj) hcond.1 hcond.2
          refine ⟨u, ?_, ?_⟩
          · simp only [Instr.loadAt, Instr.sureAddr] at hu
            simp only [hs, asAddr]
            exact hu
          · have hlen := RepA.len h4
            refine RepV.u (RepV.frame (fun _ hk => .inl hk) (fun _ _ _ => rfl) hrep) (fun zs hz => ?_)
            subst hz
            simp only [RepA, RepD] at h4
        · cases hr
      · cases hr
    · cases hr

theorem resL_run (hT : TabOk P T) {B F : Nat → Prop} {w0 w : World} {n : Nat} {σ : St} {a : Act} {g : Gh} (h : RelG B F w0 n σ a w g) : ∀ (rs : List ResultVar) (ds : List DV), resL T σ rs = some ds →
    ∃ us : List Value, (rs.mapM fun (r : ResultVar) => (match r with | .tmp t => (pure (a.tmps.getD t undef) : Sem Value) | .cell c t => do loadVar t (← asAddr (a.tmps.getD c undef)))).run P w = .ok us w ∧ All2 (RepU w (allS g)) ds us
  | [], ds, hr => by simp only [resL, Option.some.injEq] at hr; subst hr; exact ⟨[], rfl, .nil⟩
  | r :: rs, ds, hr => by
    simp only [resL] at hr
    split at hr
    · rename_i x xs hx hxs
      simp only [Option.some.injEq] at hr
      subst hr
      obtain ⟨u, hu, h1⟩ := resV_run hT h hx
      obtain ⟨us, hus, h2⟩ := resL_run hT h rs xs hxs
      exact ⟨u :: us, by rw [List.mapM_cons, Sem.run_bind, hu, Result.andThen_ok, Sem.run_bind, hus]; rfl, .cons h1 h2⟩
    · cases hr

theorem All2.length {α β : Type} {R : α → β → Prop} : ∀ {xs : List α} {ys : List β}, All2 R xs ys → xs.length = ys.length
  | _, _, .nil => rfl
  | _, _, .cons _ h => by simp [All2.length h]

theorem results_run (hT : TabOk P T) {B F : Nat → Prop} {w0 w : World} {n : Nat} {σ : St} {a : Act} {g : Gh} (h : RelG B F w0 n σ a w g) {fn : Func} {ds : List DV} (hr : resL T σ fn.results.toList = some ds) :
    ∃ v, (results fn a.tmps).run P w = .ok v w ∧ RepV w (allS g) (fin ds) v := by
  obtain ⟨us, hus, hrep⟩ := resL_run hT h _ ds hr
  have e : fn.results = fn.results.toList.toArray := by simp
  unfold results
  rw [Sem.run_bind, e, List.mapM_toArray, Sem.run_map]
  erw [hus]
  simp only [Result.andThen_ok]
  refine ⟨_, rfl, ?_⟩
  have hl := All2.length hrep
  cases hrep with
  | nil => exact ⟨[], rfl, .nil⟩
  | cons h1 h2 =>
    cases h2 with
    | nil => simpa [fin] using RepU.v h1
    | cons h3 h4 =>
      have : ∀ (u1 u2 : Value) (us : List Value), (if hh : (u1 :: u2 :: us).toArray.size = 1 then (u1 :: u2 :: us).toArray[0] else .tuple (u1 :: u2 :: us).toArray) = .tuple (u1 :: u2 :: us).toArray := fun u1 u2 us => by simp
      rw [this]
      exact ⟨_, rfl, .cons h1 (.cons h3 h4)⟩

theorem All2.get {α β : Type} {R : α → β → Prop} : ∀ {xs : List α} {ys : List β}, All2 R xs ys → ∀ {i : Nat} {x : α}, xs[i]? = some x → ∃ y, ys[i]? = some y ∧ R x y
  | _, _, .cons h t, 0, x, hx => by simp at hx; subst hx; exact ⟨_, rfl, h⟩
  | _, _, .cons h t, i + 1, x, hx => by simp at hx; simpa using All2.get t hx
  | _, _, .nil, i, x, hx => by simp at hx

/-- A contract out of the rules for the function's code. -/
theorem AFn.intro {f : FuncId} {fn : Func} {c : Code} {xs : List DV} {y : DV} (hT : TabOk P T) (hf : P.funcs[f]? = some fn) (hb : fn.body = some c) (hn : (fn.name == "runtime.NumGoroutine") = false)
    (hl : xs.length ≤ fn.ntmps) (hw : AWp P NoB fn.ntmps c (mkSt (argL 0 xs) []) (outQ T fn.results.toList y)) : AFn P f xs y false := by
  refine ⟨⟨fn, hf, hn, by rw [hb]; rfl⟩, fun F w vs hvs => ?_⟩
  have hlen := All2.length hvs
  refine calls_of_wp hf hb (wp_mono (hw F w _ w ⟨{ S := fun k => F k ∧ k < w.heap.size, blk := fun _ => 0, hdr := fun _ => .bool true, has := fun _ => False }, ?_⟩) fun e a' w' hp => ?_)
  · refine { os := rfl, tape := rfl, output := rfl, size := Nat.le_refl _, old := fun _ _ _ => rfl, n := ?_, defers := rfl, sF := fun k hk => .inl hk.1, sB := fun k hk => hk.2, own := fun i hi => hi.elim, dj := fun i j _ hi => hi.elim, slots := fun i => ?_, objs := fun i => ?_, ok := ?_, hv := fun _ => rfl }
    · simp; omega
    · simp only [mkSt, look_argL, Nat.zero_le, if_true, Nat.sub_zero]
      split
      · rename_i x hx
        obtain ⟨u, hu, hr⟩ := hvs.get hx
        have hi : i < vs.length := (List.getElem?_eq_some_iff.1 hu).1
        have : (vs.toArray ++ Array.replicate (fn.ntmps - vs.toArray.size) undef).getD i undef = u := by
          rw [Array.getD_eq_getD_getElem?, Array.getElem?_append_left (by simpa using hi)]
          simp [hu]
        rw [this]
        exact RepV.restrict hr
      · trivial
    · simp [mkSt, lookO, RepO]
    · refine ⟨fun i k hk => ?_, fun i T sz x hi => by simp [mkSt, lookO] at hi⟩
      simp only [mkSt, look_argL] at hk
      split at hk
      · split at hk <;> simp [AV.refs] at hk
      · simp [AV.refs] at hk
  · have fin : ∀ (σ : St) (ds : List DV), resL T σ fn.results.toList = some ds → Rel NoB F w fn.ntmps σ a' w' → a'.defers = [] ∧ ∃ v, (results fn a'.tmps).run P w' = .ok v w' ∧
        (∃ v', Ending.returned v = .returned v' ∧ Below w.heap.size w w' ∧ RepV w' (fun k => (false = false ∧ F k) ∨ w.heap.size ≤ k) (Sim.fin ds) v') := by
      rintro σ ds h1 ⟨g, rg⟩
      obtain ⟨v, hv, hrep⟩ := results_run hT rg h1
      refine ⟨rg.defers, v, hv, v, rfl, ⟨rg.os, rg.tape, rg.output, rg.size, fun k hk => rg.old k hk (fun h => h)⟩, RepV.frame (fun k hk => ?_) (fun _ _ _ => rfl) hrep⟩
      rcases hk with hk | ⟨id, h2, rfl⟩
      · exact (rg.sF k hk).imp (fun h => ⟨rfl, h⟩) id
      · exact .inr ((rg.own id h2).2.1.resolve_right (fun h => h))
    cases e with
    | normal => obtain ⟨σ, ⟨ds, h1, rfl⟩, h3⟩ := hp; exact fin σ ds h1 h3
    | ret => obtain ⟨σ, ⟨ds, h1, rfl⟩, h3⟩ := hp; exact fin σ ds h1 h3
    | exit i => obtain ⟨σ, h1, h3⟩ := hp; exact h1
    | goto l => exact hp.elim
    | panic ch => exact hp.elim
    | outgrown => exact hp.elim

/-! ### Calls -/

def argOk (σ : St) (fr : Bool) (x : Operand) (d : DV) : Prop :=
  ev σ x = .dat d ∨ (∃ E sz, ev σ x = .dat (.v (.slice none 0 0)) ∧ d = .sl E sz []) ∨ (fr = true ∧ ∃ id E sz zs, ev σ x = .oref id ∧ σ.obj id = some (.row E sz zs) ∧ d = .sl E sz zs)

def argsOk (σ : St) (fr : Bool) : List Operand → List DV → Prop
  | [], [] => True
  | x :: xs, d :: ds => argOk σ fr x d ∧ argsOk σ fr xs ds
  | _, _ => False

theorem argsOk_rep {B F : Nat → Prop} {w0 w : World} {n : Nat} {σ : St} {a : Act} {g : Gh} (h : RelG B F w0 n σ a w g) {fr : Bool} : ∀ (args : List Operand) (xs : List DV), argsOk σ fr args xs →
    All2 (RepV w (fun k => g.S k ∨ (fr = true ∧ ∃ id, g.has id ∧ k = g.blk id))) xs (args.map a.eval)
  | [], [], _ => .nil
  | x :: args, d :: xs, ha => by
    refine .cons ?_ (argsOk_rep h args xs ha.2)
    have hev := ev_rep h x
    rcases ha.1 with e | ⟨E, sz, e, rfl⟩ | ⟨rfl, id, E, sz, zs, e, ho, rfl⟩
    · rw [e] at hev; exact RepV.frame (fun _ hk => .inl hk) (fun _ _ _ => rfl) hev
    · rw [e] at hev
      have := raw_eval hev rfl
      rw [this]
      simp only [RepV, RepD]
      exact ⟨none, 0, [], rfl, by simp, by simp [RepF], .inl rfl⟩
    · rw [e] at hev
      simp only [RepS] at hev
      rw [hev]
      exact RepD.frame (fun k hk => hk.imp (fun h => h) (fun h => ⟨rfl, h⟩)) (fun _ _ _ => rfl) _ _ (row_sl h ho)
  | [], _ :: _, h => h.elim
  | _ :: _, [], h => h.elim

theorem argsOk_agree {σ σ' : St} {fr : Bool} : ∀ (args : List Operand) (xs : List DV), (∀ x ∈ args, ev σ' x = ev σ x) → (∀ x ∈ args, ∀ k, (ev σ x).refs k → σ'.obj k = σ.obj k) → argsOk σ fr args xs → argsOk σ' fr args xs
  | [], [], _, _, _ => trivial
  | x :: args, d :: xs, h1, h2, ha => by
    refine ⟨?_, argsOk_agree args xs (fun z hz => h1 z (by simp [hz])) (fun z hz => h2 z (by simp [hz])) ha.2⟩
    have e1 := h1 x (by simp)
    have e2 := h2 x (by simp)
    rcases ha.1 with e | ⟨E, sz, e, h⟩ | ⟨hfr, id, E, sz, zs, e, ho, h⟩
    · exact .inl (by rw [e1, e])
    · exact .inr (.inl ⟨E, sz, by rw [e1, e], h⟩)
    · exact .inr (.inr ⟨hfr, id, E, sz, zs, by rw [e1, e], by rw [e2 id (by rw [e]; simp [AV.refs])]; exact ho, h⟩)
  | [], _ :: _, _, _, h => h.elim
  | _ :: _, [], _, _, h => h.elim

theorem Ok_dat {σ : St} (ok : σ.Ok) (d : Option Nat) (x : DV) : (Eff.app ⟨.dat x, []⟩ d σ).Ok := by
  refine ⟨fun i k hk => ?_, by rw [app_obj]; exact ok.2⟩
  rw [app_slot] at hk
  rw [app_obj]
  split at hk
  · simp [AV.refs] at hk
  · exact ok.1 i k hk

theorem RelG.putO {B F : Nat → Prop} {w0 w : World} {n : Nat} {σ : St} {a : Act} {g : Gh} (h : RelG B F w0 n σ a w g) {x : AV} {u : Value} (d : Option Nat) (hx : RepS w g x u) (hr : ∀ k, x.refs k → σ.obj k ≠ none)
    (hd : ∀ i, d = some i → i < n) : RelG B F w0 n (Sim.putO σ d x) (a.put d u) w g := by
  cases d with
  | none => exact h
  | some d => exact h.put hx hr (hd d rfl)

theorem Step.call {c : Bool} {σ : St} {o : Oper} {f : FuncId} {args : List Operand} {ats : Array TypeId} {xs : List DV} {y : DV} {fr : Bool}
    (ho : o.op = .call { callee := .value (.func f), args := args.toArray, argTypes := ats }) (hc : AFn P f xs y fr) (ha : argsOk σ fr args xs) : Step P c σ o ⟨.dat y, []⟩ where
  ok := by
    rintro σ' ⟨g1, g2, g3⟩ B F w0 n a w hd ⟨g, r⟩ Q
    have hops : ∀ x ∈ args, x ∈ o.op.operands := fun x hx => by rw [ho]; simp [Op.operands, Call.operands, hx]
    have hl : looks o = true := by simp [looks, ho]
    have ha' := argsOk_agree args xs (fun x hx => g1 x (hops x hx)) (fun x hx => g3 hl x (hops x hx)) ha
    have hrep := argsOk_rep r args xs ha'
    obtain ⟨⟨fn, hf, hname, hbody⟩, hcalls⟩ := hc
    have hcall := hcalls _ w _ hrep
    unfold Oper.wp
    have hrun : (execOp a.eval o).run P w = .ok (.enter f (args.map a.eval).toArray) w := by
      simp only [execOp, ho, resolve, Act.eval, Deferred.ofValue, Sem.run_bind, Sem.run_pure, Result.andThen_ok, invoke, callFunc, run_program, hf, hname, hbody]
      simp
    rw [hrun, Oper.upon_enter]
    refine hcall.mono ?_
    rintro e w' ⟨v, rfl, hb, hv⟩
    have hw := r.world (w' := w') hb.os hb.tape hb.output hb.size hb.block (fun k => w.heap.size ≤ k ∧ k < w'.heap.size) (fun k hk => hk)
    refine ⟨_, RelG.putO hw o.dst (x := .dat y) (RepV.frame (fun k hk => ?_) (fun _ _ _ => rfl) hv.restrict) (fun k hk => by simp [AV.refs] at hk) hd⟩
    obtain ⟨hk, hlt⟩ := hk
    rcases hk with ⟨hfr, hk⟩ | hk
    · rcases hk with hk | ⟨h1, _⟩
      · exact .inl hk
      · rw [hfr] at h1; cases h1
    · exact .inr ⟨hk, hlt⟩
  objs := fun p hp => by cases hp
  okk := fun σ' _ ok => Ok_dat ok o.dst y

end
end Go.Sim
