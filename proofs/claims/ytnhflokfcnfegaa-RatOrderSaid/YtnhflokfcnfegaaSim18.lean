/- What is proved: the step rules for operations that make memory of the function's own, and for stores. -/
import Derived.Test.YtnhflokfcnfegaaSim17
namespace Go.Sim
open Go.RowKit

section
variable {P : Program} {T : Tab} {σ : St}

theorem Ok_new (ok : σ.Ok) {d : Nat} {ob : Obj} {x : AV} (hob : ∀ T sz y, ob = .box T sz y → ∀ k, y.refs k → σ.obj k ≠ none) (hx : ∀ k, x.refs k → k = d ∨ σ.obj k ≠ none) :
    (Eff.app ⟨x, [(d, ob)]⟩ (some d) σ).Ok := by
  have h1 := Ok_set ok (d := d) (o := ob) hob
  refine ⟨fun i k hk => ?_, by rw [app_obj]; exact h1.2⟩
  rw [app_slot] at hk
  rw [app_obj]
  simp only [setAll]
  split at hk
  · rcases hx k hk with rfl | h
    · rw [St.obj_set, if_pos rfl]; simp
    · rw [St.obj_set]; split <;> simp_all
  · exact h1.1 i k hk

/-- A new object in a new block, and a slot that names it. -/
theorem Step.new {c : Bool} {o : Oper} {d : Nat} {ob : Obj} {x : AV} (hd : o.dst = some d) (hn : σ.obj d = none) (hob : ∀ σ', Agree o σ σ' → σ'.Ok → ∀ T sz y, ob = .box T sz y → ∀ k, y.refs k → σ'.obj k ≠ none)
    (hx : ∀ k, x.refs k → k = d)
    (h : ∀ σ', Agree o σ σ' → ∀ (B F : Nat → Prop) (w0 : World) (n : Nat) (a : Act) (w : World) (g : Gh), RelG B F w0 n σ' a w g → σ'.obj d = none →
      ∃ (cs : Array Value) (E : TypeId) (hv u : Value), (execOp a.eval o).run P w = .ok (.value u) (w.alloc (.cells cs E)) ∧ hv.oneCell' = true ∧
        ((∃ sz y, ob = .box E sz y ∧ cs.size = sz ∧ RepA w g y cs.toList ∧ ∀ k, y.refs k → σ'.obj k ≠ none) ∨
          (∃ sz xs c, ob = .row E sz xs ∧ hv = .slice (some ⟨w.heap.size, 0, none⟩) xs.length c ∧ cs.size = c * sz ∧ xs.length ≤ c ∧ c ≤ maxLen ∧ RepF w g.S xs (List.replicate xs.length sz) (cs.toList.take (xs.length * sz)))) ∧
        RepS (w.alloc (.cells cs E)) { g with blk := upd g.blk d w.heap.size, hdr := upd g.hdr d hv, has := upd g.has d True } x u) : Step P c σ o ⟨x, [(d, ob)]⟩ where
  ok := by
    rintro σ' hA B F w0 n a w hdn ⟨g, r⟩ Q
    have hn' := hA.2.1 d hd hn
    obtain ⟨cs, E, hv, u, h1, h2, h3, h4⟩ := h σ' hA B F w0 n a w g r hn'
    unfold Oper.wp
    rw [h1, Oper.upon_value]
    have r2 := r.alloc hn' ob cs E hv h2 h3
    rw [hd]
    exact ⟨_, r2.put h4 (fun k hk => by rw [hx k hk, St.obj_set, if_pos rfl]; simp) (hdn d hd)⟩
  objs := fun p hp => by simp only [List.mem_singleton] at hp; subst hp; exact .inl ⟨hd, hn⟩
  okk := fun σ' hA ok => by rw [hd]; exact Ok_new ok (hob σ' hA ok) (fun k hk => .inl (hx k hk))

theorem Step.alloc (hT : TabOk P T) {c : Bool} {o : Oper} {d : Nat} {E : TypeId} {te : TE} (ho : o.op = .alloc E) (hd : o.dst = some d) (ht : tget T E = some te) (hn : σ.obj d = none) :
    Step P c σ o ⟨.pt d [] 0, [(d, .box E te.size (.dat te.zero))]⟩ := by
  refine Step.new hd hn (fun σ' _ _ T sz y e => by cases e; intro k hk; simp [AV.refs] at hk) (fun k hk => by simpa [AV.refs] using hk) (fun σ' hA B F w0 n a w g r hn' => ?_)
  obtain ⟨z, hz, hzU, hzs, hzl⟩ := run_zero (hT E te ht) w g.S
  refine ⟨z.cells, E, .bool true, .pointer (some ⟨w.heap.size, 0, none⟩), ?_, rfl, .inl ⟨_, _, rfl, hzs, hzU.cells, fun k hk => by simp [AV.refs] at hk⟩, ?_⟩
  · simp [execOp, ho, Instr.alloc, hz, newVar, newRow]
  · simp [RepS, upd_same]

theorem Step.box {c : Bool} {o : Oper} {d : Nat} {E : TypeId} {x : Operand} (ho : o.op = .box E x) (hd : o.dst = some d) (hl : (ev σ x).lies = true) (hn : σ.obj d = none) :
    Step P c σ o ⟨.pt d [] 0, [(d, .box E (ev σ x).len (ev σ x))]⟩ := by
  have hmem : x ∈ o.op.operands := by simp [ho, Op.operands]
  refine Step.new hd hn (fun σ' hA ok T sz y e => by cases e; intro k hk; rw [← hA.1 x hmem] at hk; exact ev_refs ok x k hk) (fun k hk => by simpa [AV.refs] using hk) (fun σ' hA B F w0 n a w g r hn' => ?_)
  have e := hA.1 x hmem
  have hev := ev_rep r x
  rw [e] at hev
  obtain ⟨h1, _, _⟩ := RepS.cells r.hv hev hl
  have hlen := RepA.len h1
  refine ⟨(a.eval x).cells, E, .bool true, .pointer (some ⟨w.heap.size, 0, none⟩), ?_, rfl, .inl ⟨_, _, rfl, by simpa using hlen, h1, fun k hk => ev_refs r.ok x k (by rw [e]; exact hk)⟩, ?_⟩
  · simp [execOp, ho, Instr.box, newVar, newRow]
  · simp [RepS, upd_same]

/-- The constant nil as an own slice. -/
theorem Step.nilown (_hT : TabOk P T) {c : Bool} {o : Oper} {d : Nat} {x : Operand} {e : TypeId} {te : TE} (ho : o.op = .assign x ∨ o.op = .move x) (hd : o.dst = some d) (hx : ev σ x = .dat (.v (.slice none 0 0)))
    (_hs : slE T o.type = some (e, te)) (hn : σ.obj d = none) : Step P c σ o ⟨.oref d, [(d, .row e te.size [])]⟩ where
  ok := by
    rintro σ' hA B F w0 n a w hdn ⟨g, r⟩ Q
    have hn' := hA.2.1 d hd hn
    have hmem : x ∈ o.op.operands := by rcases ho with ho | ho <;> simp [ho, Op.operands]
    have hev := ev_rep r x
    rw [hA.1 x hmem, hx] at hev
    have hev := raw_eval hev rfl
    unfold Oper.wp
    have hrun : (execOp a.eval o).run P w = .ok (.value (.slice none 0 0)) w := by rcases ho with ho | ho <;> simp [execOp, ho, hev]
    rw [hrun, Oper.upon_value, hd]
    exact ⟨_, (r.nilrow hn' e te.size).put (x := .oref d) (by simp [RepS, upd_same]) (fun k hk => by simp only [AV.refs] at hk; rw [hk, St.obj_set, if_pos rfl]; simp) (hdn d hd)⟩
  objs := fun p hp => by simp only [List.mem_singleton] at hp; subst hp; exact .inl ⟨hd, hn⟩
  okk := fun σ' hA ok => by rw [hd]; exact Ok_new ok (fun _ _ _ e => by cases e) (fun k hk => .inl (by simpa [AV.refs] using hk))

/-! ### Stores -/

theorem putA_refs : ∀ (p : List Pa) (c y c' : AV), putA c p y = some c' → ∀ k, c'.refs k → c.refs k ∨ y.refs k
  | [], c, y, c', h, k, hk => by simp only [putA, Option.some.injEq] at h; subst h; exact .inr hk
  | .fld i :: p, .dat (.st ns xs), y, c', h, k, hk => by
    simp only [putA] at h
    split at h
    · rename_i z hz
      split at h
      · rename_i z' hz'
        simp only [Option.some.injEq] at h
        subst h
        rcases putA_refs p _ y z' hz' k (refs_setF _ _ _ _ _ hk) with h | h
        · simp [AV.refs] at h
        · exact .inr h
      · cases h
    · cases h
  | .fld i :: p, .st ns xs, y, c', h, k, hk => by
    simp only [putA] at h
    split at h
    · rename_i z hz
      split at h
      · rename_i z' hz'
        simp only [Option.some.injEq] at h
        subst h
        simp only [AV.refs] at hk ⊢
        rcases refsL_set hk with h | h
        · exact .inl h
        · rcases putA_refs p z y z' hz' k h with h | h
          · exact .inl (refsL_mem (List.mem_of_getElem? hz) h)
          · exact .inr h
      · cases h
    · cases h
  | .idx i :: p, .dat (.ar sz xs), y, c', h, k, hk => by
    cases y <;> simp only [putA] at h <;> first | (cases h; done) | skip
    split at h
    · simp only [Option.some.injEq] at h; subst h; simp [AV.refs] at hk
    · cases h
  | .fld _ :: _, .dat (.v _), y, _, h, _, hk => by cases y <;> simp [putA, putD] at h
  | .fld _ :: _, .dat (.ar ..), y, _, h, _, hk => by cases y <;> simp [putA, putD] at h
  | .fld _ :: _, .dat (.sl ..), y, _, h, _, hk => by cases y <;> simp [putA, putD] at h
  | .fld _ :: _, .dat (.tup _), y, _, h, _, hk => by cases y <;> simp [putA, putD] at h
  | .fld _ :: _, .dat (.pd _), y, _, h, _, hk => by cases y <;> simp [putA, putD] at h
  | .fld _ :: _, .dat (.fn ..), y, _, h, _, hk => by cases y <;> simp [putA, putD] at h
  | .idx _ :: _, .dat (.v _), y, _, h, _, hk => by cases y <;> simp [putA, putD] at h
  | .idx _ :: _, .dat (.st ..), y, _, h, _, hk => by cases y <;> simp [putA, putD] at h
  | .idx _ :: _, .dat (.sl ..), y, _, h, _, hk => by cases y <;> simp [putA, putD] at h
  | .idx _ :: _, .dat (.tup _), y, _, h, _, hk => by cases y <;> simp [putA, putD] at h
  | .idx _ :: _, .dat (.pd _), y, _, h, _, hk => by cases y <;> simp [putA, putD] at h
  | .idx _ :: _, .dat (.fn ..), y, _, h, _, hk => by cases y <;> simp [putA, putD] at h
  | .idx _ :: _, .st .., _, _, h, _, _ => by simp [putA] at h
  | .fld _ :: _, .oref _, _, _, h, _, _ => by simp [putA] at h
  | .idx _ :: _, .oref _, _, _, h, _, _ => by simp [putA] at h
  | .fld _ :: _, .pt .., _, _, h, _, _ => by simp [putA] at h
  | .idx _ :: _, .pt .., _, _, h, _, _ => by simp [putA] at h
  | .fld _ :: _, .sp _, _, _, h, _, _ => by simp [putA] at h
  | .idx _ :: _, .sp _, _, _, h, _, _ => by simp [putA] at h
  | .fld _ :: _, .dead, _, _, h, _, _ => by simp [putA] at h
  | .idx _ :: _, .dead, _, _, h, _, _ => by simp [putA] at h

theorem Ok_old (ok : σ.Ok) {id : Nat} {ob : Obj} (_hid : σ.obj id ≠ none) (hob : ∀ T sz y, ob = .box T sz y → ∀ k, y.refs k → σ.obj k ≠ none) : (Eff.app ⟨.dead, [(id, ob)]⟩ none σ).Ok := by
  have h1 := Ok_set ok (d := id) (o := ob) hob
  exact h1

theorem RepA.one {w : World} {g : Gh} (hv : ∀ i, (g.hdr i).oneCell' = true) : ∀ (x : AV) (cs : List Value), RepA w g x cs → ∀ u ∈ cs, u.oneCell' = true := by
  have key : (∀ (x : AV) (cs : List Value), RepA w g x cs → ∀ u ∈ cs, u.oneCell' = true) ∧ True := by
    refine ⟨fun x => ?_, trivial⟩
    refine AV.rec (motive_1 := fun x => ∀ cs, RepA w g x cs → ∀ u ∈ cs, u.oneCell' = true) (motive_2 := fun xs => ∀ ns cs, RepAF w g xs ns cs → ∀ u ∈ cs, u.oneCell' = true) ?_ ?_ ?_ ?_ ?_ ?_ ?_ ?_ x
    · exact fun x cs h => RepD.one x cs h
    · exact fun ns xs ih cs h => ih ns cs h
    · intro id cs h; simp only [RepA] at h; subst h; simpa using hv id
    · intro id p off cs h; simp only [RepA] at h; subst h; simp [Value.oneCell']
    · intro x cs h; simp only [RepA] at h; obtain ⟨b, o, ds, rfl, _⟩ := h; simp [Value.oneCell']
    · intro cs h; simp only [RepA] at h; obtain ⟨u, rfl, h⟩ := h; simpa using h
    · intro ns cs h; simp only [RepAF] at h; obtain ⟨_, rfl⟩ := h; simp
    · intro x xs ih1 ih2 ns cs h
      simp only [RepAF] at h
      obtain ⟨n, ns', c1, c2, rfl, rfl, e3, h1, h2⟩ := h
      intro u hu
      rcases List.mem_append.1 hu with hu | hu
      · exact ih1 c1 h1 u hu
      · exact ih2 ns' c2 h2 u hu
  exact key.1

/-- A store into a variable of the function's own. -/
theorem Step.store (hT : TabOk P T) {o : Oper} {t : TypeId} {te : TE} {x y : Operand} {id : Nat} {p : List Pa} {off : Nat} {T' : TypeId} {sz : Nat} {c c' z : AV} (ho : o.op = .store t x y) (hd : o.dst = none)
    (ht : tget T t = some te) (hx : ev σ x = .pt id p off) (hob : σ.obj id = some (.box T' sz c)) (hl : locA c p 0 = some (off, z)) (hz : z.len = te.size)
    (hy1 : (nilT T t (ev σ y)).lies = true) (hy2 : (nilT T t (ev σ y)).len = te.size) (hp : putA c p (nilT T t (ev σ y)) = some c') :
    Step P true σ o ⟨.dead, [(id, .box T' sz c')]⟩ where
  ok := by
    rintro σ' hA B F w0 n a w hdn ⟨g, r⟩ Q
    have hmx : x ∈ o.op.operands := by simp [ho, Op.operands]
    have hmy : y ∈ o.op.operands := by simp [ho, Op.operands]
    have hlk : looks o = true := by simp [looks, ho]
    have hob' : σ'.obj id = some (.box T' sz c) := by rw [hA.2.2 hlk x hmx id (by rw [hx]; simp [AV.refs])]; exact hob
    have hevx := ev_rep r x
    rw [hA.1 x hmx, hx] at hevx
    simp only [RepS] at hevx
    have hevy := nilT_rep (T := T) (t := t) (ev_rep r y)
    rw [hA.1 y hmy] at hevy
    obtain ⟨hc1, _, _⟩ := RepS.cells r.hv hevy hy1
    have hO := r.objs id
    rw [hob'] at hO
    simp only [RepO] at hO
    obtain ⟨m1, cur, m2, m3, m4⟩ := hO
    obtain ⟨c1, c2, c3, e, ho', hdd, hrf, hput⟩ := RepA.loc p c _ 0 off z m4 hl
    have hl2 : c2.length = te.size := by rw [RepA.len hdd, hz]
    have hl3 := RepA.len hc1
    have hoff : off = c1.length := by omega
    have hfit : off + (a.eval y).cells.toList.length ≤ cur.size := by
      have := congrArg List.length e
      simp only [List.length_append, Array.length_toList] at this
      omega
    have hrun := run_store_at (hT t te ht) m2 rfl (by omega) hfit (RepA.one r.hv _ _ hc1)
    have hcells : cur.toList.take off ++ (a.eval y).cells.toList ++ cur.toList.drop (off + (a.eval y).cells.toList.length) = c1 ++ (a.eval y).cells.toList ++ c3 := by
      rw [e, hoff]
      congr 1
      · rw [List.append_assoc, List.take_left]
      · rw [show c1.length + (a.eval y).cells.toList.length = (c1 ++ c2).length by simp only [List.length_append]; omega, List.drop_left]
    rw [hcells] at hrun
    unfold Oper.wp
    have hrun' : (execOp a.eval o).run P w = .ok .skip (w.setRow (g.blk id) (c1 ++ (a.eval y).cells.toList ++ c3).toArray) := by
      simp only [execOp, ho, hevx, Sem.run_bind, hrun, Result.andThen_ok, Sem.run_pure]
    rw [hrun', Oper.upon_skip, hd]
    have hid : σ'.obj id ≠ none := by rw [hob']; simp
    have hS := (r.own id m1).1
    obtain ⟨k1, k2⟩ := hput (w.setRow (g.blk id) (c1 ++ (a.eval y).cells.toList ++ c3).toArray) g (nilT T t (ev σ y)) (a.eval y).cells.toList c'
      (fun v cs _ hr => RepA.frame (fun _ h => h) (fun k hk _ => setRow_other w (g.blk id) k _ (fun e => hS (by rw [← e]; exact hk))) (fun _ => True) (fun _ _ => rfl) (fun _ _ => rfl) v cs (fun _ _ => trivial) hr)
      (by omega) (RepA.frame (fun _ h => h) (fun k hk _ => setRow_other w (g.blk id) k _ (fun e => hS (by rw [← e]; exact hk))) (fun _ => True) (fun _ _ => rfl) (fun _ _ => rfl) _ _ (fun _ _ => trivial) hc1) hp
    refine ⟨g, r.rewrite m1 hid _ (.box T' sz c') ?_ ?_⟩
    · simp only [RepO]
      refine ⟨m1, _, setRow_heap w _ cur _ T' (0, 0) m2, ?_, by simpa using k1⟩
      have := congrArg List.length e
      simp only [List.length_append, Array.length_toList] at this hl3
      simp only [List.size_toArray, List.length_append, Array.length_toList]
      omega
    · intro T2 sz2 x2 e2 k hk
      cases e2
      rcases k2 k hk with h | h
      · exact r.ok.2 id T' sz c hob' k h
      · exact ev_refs r.ok y k (by rw [hA.1 y hmy]; exact nilT_refs h)
  objs := fun q hq => by
    simp only [List.mem_singleton] at hq
    subst hq
    exact .inr ⟨rfl, by simp [looks, ho], x, by simp [wr, ho], by rw [hx]; simp [AV.refs]⟩
  okk := fun σ' hA ok => by
    have hmx : x ∈ o.op.operands := by simp [ho, Op.operands]
    have hmy : y ∈ o.op.operands := by simp [ho, Op.operands]
    have hob' : σ'.obj id = some (.box T' sz c) := by rw [hA.2.2 (by simp [looks, ho]) x hmx id (by rw [hx]; simp [AV.refs])]; exact hob
    rw [hd]
    refine Ok_old ok (by rw [hob']; simp) (fun T2 sz2 x2 e2 k hk => ?_)
    cases e2
    rcases putA_refs _ _ _ _ hp k hk with h | h
    · exact ok.2 id T' sz c hob' k h
    · exact ev_refs ok y k (by rw [hA.1 y hmy]; exact nilT_refs h)

end
end Go.Sim
