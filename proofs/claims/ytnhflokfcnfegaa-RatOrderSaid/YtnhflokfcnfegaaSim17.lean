/- What is proved: the step rule for operations that make no memory and write none. -/
import Derived.Test.YtnhflokfcnfegaaSim16
namespace Go.Sim
open Go.RowKit

section
variable {P : Program} {T : Tab} {B F : Nat → Prop} {w0 w : World} {n : Nat} {σ : St} {a : Act} {g : Gh}

theorem ev_refs (ok : σ.Ok) (x : Operand) (k : Nat) (h : (ev σ x).refs k) : σ.obj k ≠ none := by
  cases x with
  | tmp t => exact ok.1 t k h
  | const v => simp only [ev] at h; split at h <;> simp [AV.refs] at h
  | global v => simp [ev, AV.refs] at h
  | func v => simp [ev, AV.refs] at h

/-- What is read at a place of an object lies in its block. -/
theorem content_cells (r : RelG B F w0 n σ a w g) {id : Nat} {o : Obj} {c y : AV} {p : List Pa} {off : Nat} (ho : σ.obj id = some o) (hc : contentOf o = some c) (hl : locA c p 0 = some (off, y)) :
    ∃ cs, RepA w g y cs ∧ (∀ j u, cs[j]? = some u → w.cell? ⟨g.blk id, off + j, none⟩ = some u) ∧ ∀ k, y.refs k → σ.obj k ≠ none := by
  have hO := r.objs id
  rw [ho] at hO
  cases o with
  | gone => simp [contentOf] at hc
  | box T' sz x =>
    simp only [contentOf, Option.some.injEq] at hc
    subst hc
    simp only [RepO] at hO
    obtain ⟨h1, cur, h2, h3, h4⟩ := hO
    obtain ⟨c1, c2, c3, e, ho', hd, hrf, _⟩ := RepA.loc p x _ 0 off y h4 hl
    refine ⟨c2, hd, fun j u hj => ?_, fun k hk => r.ok.2 id T' sz x ho k (hrf k hk)⟩
    rw [cell_of_row w _ _ cur T' (0, 0) h2]
    have : cur.toList[off + j]? = some u := by
      rw [e, ho', Nat.zero_add, List.append_assoc, List.getElem?_append_right (by omega), Nat.add_sub_cancel_left, List.getElem?_append_left (List.getElem?_eq_some_iff.1 hj).1]
      exact hj
    simpa using this
  | row E sz xs =>
    simp only [contentOf, Option.some.injEq] at hc
    subst hc
    simp only [RepO] at hO
    rcases hO with ⟨m1, rfl, m3⟩ | ⟨m1, c, cur, m2, m3, m4, m5, m6, m7⟩
    · have hz : RepA w g (.dat (.ar sz [])) [] := by simp only [RepA, RepD]; simp [RepF]
      obtain ⟨c1, c2, c3, e, ho', hd, hrf, _⟩ := RepA.loc p _ _ 0 off y hz hl
      have hc2 : c2 = [] := by
        have := congrArg List.length e
        simp at this
        exact List.eq_nil_of_length_eq_zero (by omega)
      subst hc2
      exact ⟨[], hd, fun j u hj => by simp at hj, fun k hk => by have := hrf k hk; simp [AV.refs] at this⟩
    · have hz : RepA w g (.dat (.ar sz xs)) (cur.toList.take (xs.length * sz)) := by simp only [RepA, RepD]; exact m7
      obtain ⟨c1, c2, c3, e, ho', hd, hrf, _⟩ := RepA.loc p _ _ 0 off y hz hl
      refine ⟨c2, hd, fun j u hj => ?_, fun k hk => by have := hrf k hk; simp [AV.refs] at this⟩
      rw [cell_of_row w _ _ cur E (0, 0) m3]
      have : (cur.toList.take (xs.length * sz))[off + j]? = some u := by
        rw [e, ho', Nat.zero_add, List.append_assoc, List.getElem?_append_right (by omega), Nat.add_sub_cancel_left, List.getElem?_append_left (List.getElem?_eq_some_iff.1 hj).1]
        exact hj
      rw [List.getElem?_take] at this
      split at this
      · simpa using this
      · cases this

theorem opLoad_run (hT : TabOk P T) (r : RelG B F w0 n σ a w g) {t : TypeId} {x y : AV} {v : Value} (hx : RepS w g x v) (h : opLoad T t x σ.obj = some y) :
    ∃ u, (Instr.loadAt t v).run P w = .ok u w ∧ RepS w g y u ∧ ∀ k, y.refs k → σ.obj k ≠ none := by
  unfold opLoad at h
  split at h
  · rename_i te hte
    have hE := hT t te hte
    split at h
    · rename_i id p off
      split at h
      · rename_i o ho
        split at h
        · rename_i c hc
          split at h
          · rename_i o' z hl
            split at h
            · rename_i hcond
              simp only [Bool.and_eq_true] at hcond
              simp only [Option.some.injEq] at h
              subst h
              have := Nat.eq_of_beq_eq_true hcond.1
              subst this
              obtain ⟨cs, h1, h2, h3⟩ := content_cells r ho hc hl
              obtain ⟨m1, m2⟩ := aggMatch_spec hcond.2
              simp only [RepS] at hx
              subst hx
              obtain ⟨u, hu, hrep⟩ := run_load_at hE h1 h2 m1 m2
              exact ⟨u, hu, hrep, h3⟩
            · cases h
          · cases h
        · cases h
      · cases h
    · rename_i d
      split at h
      · rename_i hcond
        simp only [Option.some.injEq] at h
        subst h
        obtain ⟨m1, m2⟩ := aggMatch_spec hcond
        simp only [RepS, RepA] at hx
        obtain ⟨b, o, ds, e, hd, hm⟩ := hx
        simp only [List.cons.injEq, and_true] at e
        subst e
        rcases hm with rfl | ⟨hS, hc⟩
        · obtain ⟨u, hu, hrep⟩ := run_load_at hE (w := w) (g := g) (y := .dat d) (cs := []) (b := b) (o := o) hd (fun j u hj => by simp at hj) m1 m2
          exact ⟨u, hu, hrep, fun k hk => by simp [AV.refs] at hk⟩
        · obtain ⟨u, hu, hrep⟩ := run_load_at hE (w := w) (g := g) (y := .dat d) (cs := ds) (b := b) (o := o) hd hc m1 m2
          exact ⟨u, hu, hrep, fun k hk => by simp [AV.refs] at hk⟩
      · cases h
    · cases h
  · cases h

theorem rep_int (k : IntKind) (m : Int) : RepS w g (.dat (.v (.int k m))) (.int k m) := by simp [RepS, RepV, RepD, Value.oneCell']

theorem opLen_run (hT : TabOk P T) (r : RelG B F w0 n σ a w g) (ty : TypeId) {t : TypeId} {x y : AV} {v : Value} (hx : RepS w g x v) (h : opLen T t x σ.obj = some y) :
    ∃ u, (Builtin.len_ #[t] ty #[v]).run P w = .ok u w ∧ RepS w g y u ∧ ∀ k, ¬ y.refs k := by
  unfold opLen at h
  split at h
  · rename_i te hte
    obtain ⟨i, d, z, q1, q2, q3, _⟩ := hT t te hte
    split at h
    · rename_i hd
      rw [hd] at q3
      cases d <;> simp only [TyD.ok] at q3
      split at h
      · rename_i s
        simp only [Option.some.injEq] at h
        subst h
        have := raw_eval hx rfl
        subst this
        exact ⟨_, by simp [Builtin.len_, run_underlying q2, goInt], rep_int _ _, fun k hk => by simp [AV.refs] at hk⟩
      · cases h
    · rename_i e hd
      rw [hd] at q3
      cases d <;> simp only [TyD.ok] at q3
      split at h
      · rename_i E sz xs
        simp only [Option.some.injEq] at h
        subst h
        simp only [RepS, RepV, RepD] at hx
        obtain ⟨ad, c, row, e, _⟩ := hx
        simp only [List.cons.injEq, and_true] at e
        subst e
        exact ⟨_, by simp [Builtin.len_, run_underlying q2, goInt], rep_int _ _, fun k hk => by simp [AV.refs] at hk⟩
      · rename_i id
        split at h
        · rename_i E sz xs ho
          simp only [Option.some.injEq] at h
          subst h
          simp only [RepS] at hx
          subst hx
          have hO := r.objs id
          rw [ho] at hO
          simp only [RepO] at hO
          refine ⟨.int .i64 xs.length, ?_, rep_int _ _, fun k hk => by simp [AV.refs] at hk⟩
          rcases hO with ⟨m1, rfl, m3⟩ | ⟨m1, c, cur, m2, _⟩
          · rw [m3]; simp [Builtin.len_, run_underlying q2, goInt]
          · rw [m2]; simp [Builtin.len_, run_underlying q2, goInt]
        · cases h
      · cases h
    · rename_i m e hd
      rw [hd] at q3
      cases d <;> simp only [TyD.ok] at q3
      obtain ⟨rfl, rfl⟩ := q3
      simp only [Option.some.injEq] at h
      subst h
      exact ⟨_, by simp [Builtin.len_, run_underlying q2, goInt], rep_int _ _, fun k hk => by simp [AV.refs] at hk⟩
    · cases h
  · cases h

/-- What a step rule of plain values asks. -/
theorem Step.value {c : Bool} {o : Oper} {x : AV} (h : ∀ σ', Agree o σ σ' → ∀ (B F : Nat → Prop) (w0 : World) (n : Nat) (a : Act) (w : World) (g : Gh), RelG B F w0 n σ' a w g →
    ∃ u, (execOp a.eval o).run P w = .ok (.value u) w ∧ RepS w g x u)
    (hr : ∀ σ', Agree o σ σ' → σ'.Ok → ∀ k, x.refs k → σ'.obj k ≠ none) : Step P c σ o ⟨x, []⟩ where
  ok := by
    rintro σ' hA B F w0 n a w hd ⟨g, r⟩ Q
    obtain ⟨u, hu, hrep⟩ := h σ' hA B F w0 n a w g r
    unfold Oper.wp
    rw [hu, Oper.upon_value]
    exact ⟨g, RelG.putO r o.dst hrep (hr σ' hA r.ok) hd⟩
  objs := fun p hp => by cases hp
  okk := fun σ' hA ok => by
    refine ⟨fun i k hk => ?_, by rw [app_obj]; exact ok.2⟩
    rw [app_slot] at hk
    rw [app_obj]
    split at hk
    · exact hr σ' hA ok k hk
    · exact ok.1 i k hk

theorem rep_raw {v : Value} (h : v.oneCell' = true) : RepS w g (.dat (.v v)) v := by simp [RepS, RepV, RepD, h]

theorem runary_one {op : UnOp} {x u : Value} (h : runary op x = some u) : u.oneCell' = true := by
  cases op <;> cases x <;> simp only [runary, Option.some.injEq, reduceCtorEq] at h <;> subst h <;> rfl
theorem rconv_one {d : TyD} {x u : Value} (h : rconv d x = some u) : u.oneCell' = true := by
  cases d <;> cases x <;> simp only [rconv, Option.some.injEq, reduceCtorEq] at h <;> subst h <;> rfl

theorem opV_run (hT : TabOk P T) (r : RelG B F w0 n σ a w g) {o : Oper} {y : AV} (h : opV T σ o = some y) :
    ∃ u, (execOp a.eval o).run P w = .ok (.value u) w ∧ RepS w g y u ∧ ∀ k, y.refs k → σ.obj k ≠ none := by
  obtain ⟨dst, op, type, pos, after, guard⟩ := o
  unfold opV at h
  cases op with
  | move x =>
    simp only [Option.some.injEq] at h; subst h
    exact ⟨a.eval x, rfl, nilT_rep (ev_rep r x), fun k hk => ev_refs r.ok x k (nilT_refs hk)⟩
  | assign x =>
    simp only [Option.some.injEq] at h; subst h
    exact ⟨a.eval x, rfl, nilT_rep (ev_rep r x), fun k hk => ev_refs r.ok x k (nilT_refs hk)⟩
  | pick c x z =>
    simp only [opPick] at h
    split at h
    · rename_i b hc
      have hb := raw_eval (ev_rep r c) (by rw [hc]; rfl)
      cases b with
      | true =>
        simp only [Option.some.injEq] at h; subst h
        exact ⟨a.eval x, by simp [execOp, hb, asBool], ev_rep r x, ev_refs r.ok x⟩
      | false =>
        simp only [Option.some.injEq] at h; subst h
        exact ⟨a.eval z, by simp [execOp, hb, asBool], ev_rep r z, ev_refs r.ok z⟩
    · cases h
  | binOp op t x z t' =>
    simp only at h
    split at h
    · rename_i u v hu hv
      have e1 := raw_eval (ev_rep r x) hu
      have e2 := raw_eval (ev_rep r z) hv
      obtain ⟨res, h1, h2, h3⟩ := opBin_run (P := P) (w := w) (g := g) hT h x z
      exact ⟨res, by simp only [execOp, e1, e2]; rw [Sem.run_bind, h1]; rfl, h2, fun k hk => absurd hk (h3 k)⟩
    · cases h
  | unOp op t x =>
    simp only at h
    split at h
    · rename_i u hu
      split at h
      · rename_i v hv
        simp only [Option.some.injEq] at h; subst h
        have e1 := raw_eval (ev_rep r x) hu
        exact ⟨v, by simp only [execOp, e1, Sem.run_bind, run_runary hv w]; rfl, rep_raw (runary_one hv), fun k hk => by simp [AV.refs] at hk⟩
      · cases h
    · cases h
  | convert s d x =>
    simp only at h
    split at h
    · rename_i u hu
      unfold opConv at h
      split at h
      · rename_i ts td hs hd
        split at h
        · rename_i v hv
          simp only [Option.some.injEq] at h; subst h
          have e1 := raw_eval (ev_rep r x) hu
          obtain ⟨_, _, _, _, s2, _⟩ := hT _ _ hs
          obtain ⟨_, _, _, _, d2, d3, _⟩ := hT _ _ hd
          exact ⟨v, by simp only [execOp, e1, Sem.run_bind, run_rconv s2 d2 d3 hv w]; rfl, rep_raw (rconv_one hv), fun k hk => by simp [AV.refs] at hk⟩
        · cases h
      · cases h
    · cases h
  | fieldAddr s x i =>
    obtain ⟨u, h1, h2, h3⟩ := opFieldAddr_run (P := P) (w := w) hT (ev_rep r x) h
    exact ⟨u, by simp only [execOp, Sem.run_bind, h1]; rfl, h2, fun k hk => ev_refs r.ok x k (h3 k hk)⟩
  | field s x i =>
    obtain ⟨u, h1, h2, h3⟩ := opField_run (P := P) (w := w) hT (ev_rep r x) h
    exact ⟨u, by simp only [execOp, Sem.run_bind, h1]; rfl, h2, fun k hk => absurd hk (h3 k)⟩
  | extract x i =>
    simp only at h
    split at h
    · rename_i xs hx
      split at h
      · rename_i z hz
        simp only [Option.some.injEq] at h; subst h
        have hev := ev_rep r x
        rw [hx] at hev
        obtain ⟨us, e, hf⟩ := hev
        obtain ⟨u, hu, hrep⟩ := hf.get hz
        exact ⟨u, by simp [execOp, e, Instr.extract, hu], RepU.v hrep, fun k hk => by simp [AV.refs] at hk⟩
      · cases h
    · cases h
  | build t ps =>
    obtain ⟨u, h1, h2, h3⟩ := opBuild_run hT r h
    exact ⟨u, by simp only [execOp, Sem.run_bind, h1]; rfl, h2, h3⟩
  | nilCheck x =>
    simp only at h
    have hev := ev_rep r x
    split at h
    · rename_i id p off hx
      simp only [Option.some.injEq] at h; subst h
      rw [hx] at hev
      have hev' := hev
      simp only [RepS] at hev
      exact ⟨a.eval x, by simp [execOp, hev], hev', fun k hk => ev_refs r.ok x k (by rw [hx]; exact hk)⟩
    · rename_i z hx
      simp only [Option.some.injEq] at h; subst h
      rw [hx] at hev
      have hev' := hev
      simp only [RepS, RepA] at hev
      obtain ⟨b, o, ds, e, _⟩ := hev
      simp only [List.cons.injEq, and_true] at e
      exact ⟨a.eval x, by simp [execOp, e], hev', fun k hk => by simp [AV.refs] at hk⟩
    · cases h
  | load t x =>
    obtain ⟨u, h1, h2, h3⟩ := opLoad_run (P := P) hT r (ev_rep r x) h
    exact ⟨u, by simp only [execOp, Sem.run_bind, h1]; rfl, h2, h3⟩
  | call c =>
    obtain ⟨callee, args, ats⟩ := c
    cases callee with
    | builtin b =>
      simp only at h
      have hargs : args = args.toList.toArray := by simp
      have hats : ats = ats.toList.toArray := by simp
      generalize args.toList = l at *
      generalize ats.toList = m at *
      subst hargs
      subst hats
      cases b with
      | len =>
        simp only [opBuiltin] at h
        split at h
        · rename_i x t
          obtain ⟨u, h1, h2, h3⟩ := opLen_run (P := P) hT r type (ev_rep r x) h
          exact ⟨u, by simp [execOp, resolve, invoke, builtin, h1], h2, fun k hk => absurd hk (h3 k)⟩
        · cases h
      | max =>
        simp only [opBuiltin] at h
        split at h
        · rename_i x z
          unfold opMax at h
          split at h
          · rename_i k p k' q hx hz
            simp only [Option.some.injEq] at h; subst h
            have e1 := raw_eval (ev_rep r x) hx
            have e2 := raw_eval (ev_rep r z) hz
            exact ⟨_, by simp [execOp, resolve, invoke, builtin, e1, e2, run_max_int2], rep_raw rfl, fun k hk => by simp [AV.refs] at hk⟩
          · cases h
        · cases h
      | min =>
        simp only [opBuiltin] at h
        split at h
        · rename_i x z
          unfold opMin at h
          split at h
          · rename_i k p k' q hx hz
            simp only [Option.some.injEq] at h; subst h
            have e1 := raw_eval (ev_rep r x) hx
            have e2 := raw_eval (ev_rep r z) hz
            exact ⟨_, by simp [execOp, resolve, invoke, builtin, e1, e2, run_min_int2], rep_raw rfl, fun k hk => by simp [AV.refs] at hk⟩
          · cases h
        · cases h
      | _ => simp [opBuiltin] at h
    | _ => simp at h
  | _ => simp at h

theorem locA_refs : ∀ (p : List Pa) (c : AV) (off o : Nat) (y : AV), locA c p off = some (o, y) → ∀ k, y.refs k → c.refs k
  | [], c, off, o, y, h, k, hk => by
    simp only [locA, Option.some.injEq, Prod.mk.injEq] at h
    rw [h.2]; exact hk
  | s :: p, .dat x, off, o, y, h, k, hk => by
    rw [locA_dat] at h
    split at h
    · simp only [Option.some.injEq, Prod.mk.injEq] at h
      rw [← h.2] at hk
      simp [AV.refs] at hk
    · cases h
  | .fld i :: p, .st ns xs, off, o, y, h, k, hk => by
    simp only [locA] at h
    split at h
    · rename_i z hz
      simp only [AV.refs]
      exact refsL_mem (List.mem_of_getElem? hz) (locA_refs p z _ o y h k hk)
    · cases h
  | .idx _ :: _, .st .., _, _, _, hl, _, _ => by simp [locA] at hl
  | .fld _ :: _, .oref _, _, _, _, hl, _, _ => by simp [locA] at hl
  | .idx _ :: _, .oref _, _, _, _, hl, _, _ => by simp [locA] at hl
  | .fld _ :: _, .pt .., _, _, _, hl, _, _ => by simp [locA] at hl
  | .idx _ :: _, .pt .., _, _, _, hl, _, _ => by simp [locA] at hl
  | .fld _ :: _, .sp _, _, _, _, hl, _, _ => by simp [locA] at hl
  | .idx _ :: _, .sp _, _, _, _, hl, _, _ => by simp [locA] at hl
  | .fld _ :: _, .dead, _, _, _, hl, _, _ => by simp [locA] at hl
  | .idx _ :: _, .dead, _, _, _, hl, _, _ => by simp [locA] at hl

theorem content_refs (ok : σ.Ok) {id : Nat} {o : Obj} {c : AV} (ho : σ.obj id = some o) (hc : contentOf o = some c) (k : Nat) (hk : c.refs k) : σ.obj k ≠ none := by
  cases o with
  | box T' sz x => simp only [contentOf, Option.some.injEq] at hc; subst hc; exact ok.2 _ T' sz x ho k hk
  | row E sz xs => simp only [contentOf, Option.some.injEq] at hc; subst hc; simp [AV.refs] at hk
  | gone => simp [contentOf] at hc

theorem buildF_refs (ok : σ.Ok) {t : TypeId} {ns : List Nat} : ∀ (ps : List (Nat × Operand)) (xs ys : List AV), buildF T t σ ns ps xs = some ys → ∀ k, AV.refs.refsL ys k → AV.refs.refsL xs k ∨ σ.obj k ≠ none
  | [], xs, ys, h, k, hk => by simp only [buildF, Option.some.injEq] at h; subst h; exact .inl hk
  | (i, x) :: ps, xs, ys, h, k, hk => by
    simp only [buildF] at h
    split at h
    · split at h
      · rcases buildF_refs ok ps _ ys h k hk with h | h
        · rcases refsL_set h with h | h
          · exact .inl h
          · exact .inr (ev_refs ok x k (nilT_refs h))
        · exact .inr h
      · cases h
    · cases h

theorem opV_refs (ok : σ.Ok) {o : Oper} {y : AV} (h : opV T σ o = some y) : ∀ k, y.refs k → σ.obj k ≠ none := by
  intro k hk
  obtain ⟨dst, op, type, pos, after, guard⟩ := o
  unfold opV at h
  have none : ∀ d : DV, y = .dat d → σ.obj k ≠ none := fun d e => by rw [e] at hk; simp [AV.refs] at hk
  cases op with
  | move x => simp only [Option.some.injEq] at h; subst h; exact ev_refs ok x k (nilT_refs hk)
  | assign x => simp only [Option.some.injEq] at h; subst h; exact ev_refs ok x k (nilT_refs hk)
  | pick c x z =>
    simp only [opPick] at h
    split at h
    · rename_i b hc
      cases b with
      | true => simp only [Option.some.injEq] at h; subst h; exact ev_refs ok x k hk
      | false => simp only [Option.some.injEq] at h; subst h; exact ev_refs ok z k hk
    · cases h
  | binOp op t x z t' =>
    simp only at h
    split at h
    · unfold opBin at h
      repeat' split at h
      all_goals first | (cases h; done) | (simp only [Option.some.injEq] at h; exact none _ h.symm)
    · cases h
  | unOp op t x =>
    simp only at h
    repeat' split at h
    all_goals first | (cases h; done) | (simp only [Option.some.injEq] at h; exact none _ h.symm)
  | convert s d x =>
    simp only [opConv] at h
    repeat' split at h
    all_goals first | (cases h; done) | (simp only [Option.some.injEq] at h; exact none _ h.symm)
  | fieldAddr s x i =>
    simp only [opFieldAddr] at h
    repeat' split at h
    all_goals first
      | (cases h; done)
      | (simp only [Option.some.injEq] at h; subst h; simp [AV.refs] at hk; done)
      | (rename_i hx; simp only [Option.some.injEq] at h; subst h; exact ev_refs ok x k (by rw [hx]; exact hk))
  | field s x i =>
    simp only [opField] at h
    repeat' split at h
    all_goals first | (cases h; done) | (simp only [Option.some.injEq] at h; exact none _ h.symm)
  | extract x i =>
    simp only at h
    repeat' split at h
    all_goals first | (cases h; done) | (simp only [Option.some.injEq] at h; exact none _ h.symm)
  | build t ps =>
    simp only [opBuild] at h
    repeat' split at h
    all_goals first
      | (cases h; done)
      | (simp only [Option.some.injEq] at h; exact none _ h.symm)
      | skip
    rename_i xs hb
    simp only [Option.some.injEq] at h
    subst h
    unfold mkSt' at hk
    split at hk
    · simp [AV.refs] at hk
    · simp only [AV.refs] at hk
      exact (buildF_refs ok _ _ _ hb k hk).resolve_left (refsL_map_dat _ k)
  | nilCheck x =>
    simp only at h
    split at h
    · rename_i hx; simp only [Option.some.injEq] at h; subst h; exact ev_refs ok x k (by rw [hx]; exact hk)
    · simp only [Option.some.injEq] at h; subst h; simp [AV.refs] at hk
    · cases h
  | load t x =>
    simp only [opLoad] at h
    repeat' split at h
    all_goals first
      | (cases h; done)
      | (simp only [Option.some.injEq] at h; exact none _ h.symm)
      | skip
    rename_i hob _ c hc _ _ _ hl _
    simp only [Option.some.injEq] at h
    subst h
    exact content_refs ok hob hc k (locA_refs _ _ _ _ _ hl k hk)
  | call c =>
    simp only at h
    split at h
    · unfold opBuiltin at h
      repeat' split at h
      all_goals first
        | (cases h; done)
        | (simp only [opMin, opMax] at h; split at h <;> first | (cases h; done) | (simp only [Option.some.injEq] at h; exact none _ h.symm))
        | (unfold opLen at h; (repeat' split at h) <;> first | (cases h; done) | (simp only [Option.some.injEq] at h; exact none _ h.symm))
    · cases h
  | _ => simp at h

/-- Operations that make no memory and write none. -/
theorem Step.pure (hT : TabOk P T) {c : Bool} {o : Oper} {x : AV} (h : opV T σ o = some x) : Step P c σ o ⟨x, []⟩ := by
  have hc : ∀ σ', Agree o σ σ' → opV T σ' o = some x := fun σ' hA => (opV_congr hA).trans h
  refine Step.value (fun σ' hA B F w0 n a w g r => ?_) (fun σ' hA ok k hk => ?_)
  · obtain ⟨u, h1, h2, _⟩ := opV_run hT r (hc σ' hA)
    exact ⟨u, h1, h2⟩
  · exact opV_refs ok (hc σ' hA) k hk

end
end Go.Sim
