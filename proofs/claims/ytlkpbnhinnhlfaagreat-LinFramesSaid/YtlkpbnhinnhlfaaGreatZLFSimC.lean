/- What is proved: the step rules for operations that make memory of the function's own, and for stores. -/
import Derived.Test.YtlkpbnhinnhlfaaGreatZLFSimB
import Derived.Laws.Externs

namespace Go.Sim
open Go.RowKit
section
variable {P : Program} {N : Value → Prop} {T : Tab} {σ : St}
theorem Ok_new (ok : σ.Ok) {d : Nat} {ob : Obj} {x : AV} (hob : ∀ T sz y, ob = .box T sz y → ∀ k, y.refs k → σ.obj k ≠ none) (hx : ∀ k, x.refs k → k = d ∨ σ.obj k ≠ none)
    (hob3 : ∀ T E sz xss hs, ob = .rr T E sz xss hs → ∀ p ∈ hs, σ.obj p.2 ≠ none := by intros; contradiction) :
    (Eff.app ⟨x, [(d, ob)]⟩ (some d) σ).Ok := by
  have h1 := Ok_set ok (d := d) (o := ob) hob hob3
  refine ⟨fun i k hk => ?_, ok_tail (app_obj _ _ _) h1.2⟩
  rw [app_slot] at hk
  rw [app_obj]
  simp only [setAll]
  split at hk
  · rcases hx k hk with rfl | h
    · rw [St.obj_set, if_pos rfl]; simp
    · rw [St.obj_set]; split <;> simp_all
  · exact h1.1 i k hk
/-- A new object in a new block, and a slot that names it. -/
theorem Step.new {c : Bool} {o : Oper} {d : Nat} {ob : Obj} {x : AV} (hd : o.dst = some d) (hn : σ.obj d = none) (hob : ∀ σ', Agree o σ σ' → σ'.Ok → ∀ T sz y, ob = .box T sz y → ∀ k, y.refs k → σ'.obj k ≠ none)
    (hx : ∀ k, x.refs k → k = d)
    (h : ∀ σ', Agree o σ σ' → ∀ (B : Nat → Nat → Prop) (F : Cx) (w0 : World) (n : Nat) (a : Act) (w : World) (g : Gh), RelG B F w0 n σ' a w g → σ'.obj d = none →
      ∃ (cs : Array Value) (E : TypeId) (hv u : Value), (execOp a.eval o).run P w = .ok (.value u) (w.alloc (.cells cs E)) ∧ hv.oneCell' = true ∧
        ((∃ sz y, ob = .box E sz y ∧ cs.size = sz ∧ RepA w g y cs.toList ∧ ∀ k, y.refs k → σ'.obj k ≠ none) ∨
          (∃ sz xs c, ob = .row E sz xs ∧ hv = .slice (some ⟨w.heap.size, 0, none⟩) xs.length c ∧ cs.size = c * sz ∧ xs.length ≤ c ∧ c ≤ maxLen ∧ RepF w g.S xs (List.replicate xs.length sz) (cs.toList.take (xs.length * sz)))) ∧
        RepS (w.alloc (.cells cs E)) { g with blk := upd g.blk d w.heap.size, hdr := upd g.hdr d hv, has := upd g.has d True } x u)
    (hnf : carry o.op = none := by (simp_all [carry])) (hob3 : ∀ T E sz xss hs, ob ≠ .rr T E sz xss hs := by intros; intro h; cases h) : Step P N c σ o ⟨x, [(d, ob)]⟩ where
  ok := by
    rintro σ' hA B F w0 n a w hdn ⟨g, r⟩ Q _
    have hn' := hA.2.1 d hd hn
    obtain ⟨cs, E, hv, u, h1, h2, h3, h4⟩ := h σ' hA B F w0 n a w g r hn'
    unfold Oper.wp
    rw [h1, Oper.upon_value]
    have r2 := r.alloc (Nat.lt_of_lt_of_le (hdn d hd) r.nlt) hn' ob cs E hv h2 h3
    rw [hd]
    exact ⟨_, r2.put h4 (fun k hk => by rw [hx k hk, St.obj_set, if_pos rfl]; simp) (hdn d hd)⟩
  objs := fun p hp => by simp only [List.mem_singleton] at hp; subst hp; exact .inl ⟨hd, hn⟩
  okk := fun σ' hA ok => by rw [hd]; exact Ok_new ok (hob σ' hA ok) (fun k hk => .inl (hx k hk)) (fun T E sz xss hs e => absurd e (hob3 T E sz xss hs))
  near := fun y h => by rw [hnf] at h; cases h
  made := fun _ k hk => by rw [hx k hk]; exact hd
theorem Step.alloc (hT : TabOk P T) {c : Bool} {o : Oper} {d : Nat} {E : TypeId} {te : TE} (ho : o.op = .alloc E) (hd : o.dst = some d) (ht : tget T E = some te) (hn : σ.obj d = none) :
    Step P N c σ o ⟨.pt d [] 0, [(d, .box E te.size (.dat te.zero))]⟩ := by
  refine Step.new hd hn (fun σ' _ _ T sz y e => by cases e; intro k hk; simp [AV.refs] at hk) (fun k hk => by simpa [AV.refs] using hk) (fun σ' hA B F w0 n a w g r hn' => ?_)
  obtain ⟨z, hz, hzU, hzs, hzl⟩ := run_zero (hT E te ht) w g.S
  refine ⟨z.cells, E, .bool true, .pointer (some ⟨w.heap.size, 0, none⟩), ?_, rfl, .inl ⟨_, _, rfl, hzs, hzU.cells, fun k hk => by simp [AV.refs] at hk⟩, ?_⟩
  · simp [execOp, ho, Instr.alloc, hz, newVar, newRow]
  · simp [RepS, upd_same]
theorem Step.box {c : Bool} {o : Oper} {d : Nat} {E : TypeId} {x : Operand} (ho : o.op = .box E x) (hd : o.dst = some d) (hl : (ev σ x).lies = true) (hn : σ.obj d = none) :
    Step P N c σ o ⟨.pt d [] 0, [(d, .box E (ev σ x).len (ev σ x))]⟩ := by
  have hmem : x ∈ o.op.operands := by simp [ho, Op.operands]
  refine Step.new hd hn (fun σ' hA ok T sz y e => by cases e; intro k hk; rw [← hA.1 x hmem] at hk; exact ev_refs ok x k hk) (fun k hk => by simpa [AV.refs] using hk) (fun σ' hA B F w0 n a w g r hn' => ?_)
  have e := hA.1 x hmem
  have hev := ev_rep r x
  rw [e] at hev
  obtain ⟨h1, _, _⟩ := RepS.cells r.hv hev hl
  have hlen := RepA.len h1
  refine ⟨(a.eval x).cells, E, .bool true, .pointer (some ⟨w.heap.size, 0, none⟩), ?_, rfl, .inl ⟨_, _, rfl, by simpa using hlen, h1, fun k hk => ev_refs r.ok x k (by rw [e]; exact hk)⟩, ?_⟩
  · simp [execOp, ho, Instr.box, newVar, newRow]
  · simp [RepS, upd_same]
/-- The constant nil as an own slice. -/
theorem Step.nilown (_hT : TabOk P T) {c : Bool} {o : Oper} {d : Nat} {x : Operand} {e : TypeId} {te : TE} (ho : o.op = .assign x ∨ o.op = .move x) (hd : o.dst = some d) (hx : ev σ x = .dat (.v (.slice none 0 0)))
    (_hs : slE T o.type = some (e, te)) (hn : σ.obj d = none) (hxc : ∀ t, x ≠ .tmp t) : Step P N c σ o ⟨.oref d, [(d, .row e te.size [])]⟩ where
  ok := by
    rintro σ' hA B F w0 n a w hdn ⟨g, r⟩ Q _
    have hn' := hA.2.1 d hd hn
    have hmem : x ∈ o.op.operands := by rcases ho with ho | ho <;> simp [ho, Op.operands]
    have hev := ev_rep r x
    rw [hA.1 x hmem, hx] at hev
    have hev := raw_eval hev rfl
    unfold Oper.wp
    have hrun : (execOp a.eval o).run P w = .ok (.value (.slice none 0 0)) w := by rcases ho with ho | ho <;> simp [execOp, ho, hev]
    rw [hrun, Oper.upon_value, hd]
    exact ⟨_, (r.nilrow hn' e te.size).put (x := .oref d) (by simp [RepS, upd_same]) (fun k hk => by simp only [AV.refs] at hk; rw [hk, St.obj_set, if_pos rfl]; simp) (hdn d hd)⟩
  objs := fun p hp => by simp only [List.mem_singleton] at hp; subst hp; exact .inl ⟨hd, hn⟩
  okk := fun σ' hA ok => by rw [hd]; exact Ok_new ok (fun _ _ _ e => by cases e) (fun k hk => .inl (by simpa [AV.refs] using hk))
  near := fun y h => by cases x <;> first | (exact absurd rfl (hxc _)) | (rcases ho with ho | ho <;> (rw [ho] at h; simp [carry] at h))
  made := fun _ k hk => by simp only [AV.refs] at hk; rw [hk]; exact hd
/-! ### Stores -/
theorem putA_refs : ∀ (p : List Pa) (c y c' : AV), putA c p y = some c' → ∀ k, c'.refs k → c.refs k ∨ y.refs k
  | [], c, y, c', h, k, hk => by simp only [putA, Option.some.injEq] at h; subst h; exact .inr hk
  | .fld i :: p, .dat (.st ns xs), y, c', h, k, hk => by
    simp only [putA] at h
    split at h
    · rename_i z hz
      split at h
      · rename_i z' hz'
        simp only [Option.some.injEq] at h
        subst h
        rcases putA_refs p _ y z' hz' k (refs_setF _ _ _ _ _ hk) with h | h
        · simp [AV.refs] at h
        · exact .inr h
      · cases h
    · cases h
  | .fld i :: p, .st ns xs, y, c', h, k, hk => by
    simp only [putA] at h
    split at h
    · rename_i z hz
      split at h
      · rename_i z' hz'
        simp only [Option.some.injEq] at h
        subst h
        simp only [AV.refs] at hk ⊢
        rcases refsL_set hk with h | h
        · exact .inl h
        · rcases putA_refs p z y z' hz' k h with h | h
          · exact .inl (refsL_mem (List.mem_of_getElem? hz) h)
          · exact .inr h
      · cases h
    · cases h
  | .idx i :: p, .dat (.ar sz xs), y, c', h, k, hk => by
    cases y <;> simp only [putA] at h <;> first | (cases h; done) | skip
    split at h
    · simp only [Option.some.injEq] at h; subst h; simp [AV.refs] at hk
    · cases h
  | .fld _ :: _, .dat (.v _), y, _, h, _, hk => by cases y <;> simp [putA, putD] at h
  | .fld _ :: _, .dat (.ar ..), y, _, h, _, hk => by cases y <;> simp [putA, putD] at h
  | .fld _ :: _, .dat (.sl ..), y, _, h, _, hk => by cases y <;> simp [putA, putD] at h
  | .fld _ :: _, .dat (.tup _), y, _, h, _, hk => by cases y <;> simp [putA, putD] at h
  | .fld _ :: _, .dat (.pd _), y, _, h, _, hk => by cases y <;> simp [putA, putD] at h
  | .fld _ :: _, .dat (.fn ..), y, _, h, _, hk => by cases y <;> simp [putA, putD] at h
  | .fld _ :: _, .dat (.mp ..), y, _, h, _, hk => by cases y <;> simp [putA, putD] at h
  | .fld _ :: _, .dat (.any _), y, _, h, _, hk => by cases y <;> simp [putA, putD] at h
  | .idx _ :: _, .dat (.v _), y, _, h, _, hk => by cases y <;> simp [putA, putD] at h
  | .idx _ :: _, .dat (.st ..), y, _, h, _, hk => by cases y <;> simp [putA, putD] at h
  | .idx _ :: _, .dat (.sl ..), y, _, h, _, hk => by cases y <;> simp [putA, putD] at h
  | .idx _ :: _, .dat (.tup _), y, _, h, _, hk => by cases y <;> simp [putA, putD] at h
  | .idx _ :: _, .dat (.pd _), y, _, h, _, hk => by cases y <;> simp [putA, putD] at h
  | .idx _ :: _, .dat (.fn ..), y, _, h, _, hk => by cases y <;> simp [putA, putD] at h
  | .idx _ :: _, .dat (.mp ..), y, _, h, _, hk => by cases y <;> simp [putA, putD] at h
  | .idx _ :: _, .dat (.any _), y, _, h, _, hk => by cases y <;> simp [putA, putD] at h
  | .idx _ :: _, .st .., _, _, h, _, _ => by simp [putA] at h
  | .fld _ :: _, .oref _, _, _, h, _, _ => by simp [putA] at h
  | .idx _ :: _, .oref _, _, _, h, _, _ => by simp [putA] at h
  | .fld _ :: _, .pt .., _, _, h, _, _ => by simp [putA] at h
  | .idx _ :: _, .pt .., _, _, h, _, _ => by simp [putA] at h
  | .fld _ :: _, .fb .., _, _, h, _, _ => by simp [putA] at h
  | .fld _ :: _, .vw .., _, _, h, _, _ => by simp [putA] at h
  | .idx _ :: _, .vw .., _, _, h, _, _ => by simp [putA] at h
  | .idx _ :: _, .fb .., _, _, h, _, _ => by simp [putA] at h
  | .fld _ :: _, .sp _, _, _, h, _, _ => by simp [putA] at h
  | .idx _ :: _, .sp _, _, _, h, _, _ => by simp [putA] at h
  | .fld _ :: _, .dead, _, _, h, _, _ => by simp [putA] at h
  | .idx _ :: _, .dead, _, _, h, _, _ => by simp [putA] at h
theorem Ok_old (ok : σ.Ok) {id : Nat} {ob : Obj} (_hid : σ.obj id ≠ none) (hob : ∀ T sz y, ob = .box T sz y → ∀ k, y.refs k → σ.obj k ≠ none)
    (hob3 : ∀ T E sz xss hs, ob = .rr T E sz xss hs → ∀ p ∈ hs, σ.obj p.2 ≠ none := by intros; contradiction) : (Eff.app ⟨.dead, [(id, ob)]⟩ none σ).Ok := by
  have h1 := Ok_set ok (d := id) (o := ob) hob hob3
  exact h1
theorem vwV_one {v : Value} {l h sz : Nat} (hv : v.oneCell' = true) : (vwV v l h sz).oneCell' = true := by
  cases v <;> first | exact hv | rfl
theorem RepA.one {w : World} {g : Gh} (hv : ∀ i, (g.hdr i).oneCell' = true) : ∀ (x : AV) (cs : List Value), RepA w g x cs → ∀ u ∈ cs, u.oneCell' = true := by
  have key : (∀ (x : AV) (cs : List Value), RepA w g x cs → ∀ u ∈ cs, u.oneCell' = true) ∧ True := by
    refine ⟨fun x => ?_, trivial⟩
    refine AV.rec (motive_1 := fun x => ∀ cs, RepA w g x cs → ∀ u ∈ cs, u.oneCell' = true) (motive_2 := fun xs => ∀ ns cs, RepAF w g xs ns cs → ∀ u ∈ cs, u.oneCell' = true) ?_ ?_ ?_ ?_ ?_ ?_ ?_ ?_ ?_ ?_ x
    · exact fun x cs h => RepD.one x cs h
    · exact fun ns xs ih cs h => ih ns cs h
    · intro id cs h; simp only [RepA] at h; subst h; simpa using hv id
    · intro id p off cs h; simp only [RepA] at h; subst h; simp [Value.oneCell']
    · intro x cs h; simp only [RepA] at h; obtain ⟨b, o, ds, rfl, _⟩ := h; simp [Value.oneCell']
    · intro f fs ks cs h; simp only [RepA] at h; subst h; simp [fbV, Value.oneCell']
    · intro id l h sz cs hr; simp only [RepA] at hr; subst hr; intro u hu; rw [List.mem_singleton.1 hu]; exact vwV_one (hv id)
    · intro cs h; simp only [RepA] at h; obtain ⟨u, rfl, h⟩ := h; simpa using h
    · intro ns cs h; simp only [RepAF] at h; obtain ⟨_, rfl⟩ := h; simp
    · intro x xs ih1 ih2 ns cs h
      simp only [RepAF] at h
      obtain ⟨n, ns', c1, c2, rfl, rfl, e3, h1, h2⟩ := h
      intro u hu
      rcases List.mem_append.1 hu with hu | hu
      · exact ih1 c1 h1 u hu
      · exact ih2 ns' c2 h2 u hu
  exact key.1
/-- A store into a variable of the function's own. -/
theorem Step.store (hT : TabOk P T) {o : Oper} {t : TypeId} {te : TE} {x y : Operand} {id : Nat} {p : List Pa} {off : Nat} {T' : TypeId} {sz : Nat} {c c' z : AV} (ho : o.op = .store t x y) (hd : o.dst = none)
    (ht : tget T t = some te) (hx : ev σ x = .pt id p off) (hob : σ.obj id = some (.box T' sz c)) (hl : locA c p 0 = some (off, z)) (hz : z.len = te.size)
    (hy1 : (nilT T t (ev σ y)).lies = true) (hy2 : (nilT T t (ev σ y)).len = te.size) (hp : putA c p (nilT T t (ev σ y)) = some c') :
    Step P N true σ o ⟨.dead, [(id, .box T' sz c')]⟩ where
  ok := by
    rintro σ' hA B F w0 n a w hdn ⟨g, r⟩ Q _
    have hmx : x ∈ o.op.operands := by simp [ho, Op.operands]
    have hmy : y ∈ o.op.operands := by simp [ho, Op.operands]
    have hlk : looks o = true := by simp [looks, ho]
    have hob' : σ'.obj id = some (.box T' sz c) := by rw [hA.2.2 hlk x hmx id (by rw [hx]; simp [AV.refs])]; exact hob
    have hevx := ev_rep r x
    rw [hA.1 x hmx, hx] at hevx
    simp only [RepS] at hevx
    have hevy := nilT_rep (T := T) (t := t) (ev_rep r y)
    rw [hA.1 y hmy] at hevy
    obtain ⟨hc1, _, _⟩ := RepS.cells r.hv hevy hy1
    have hO := r.objs id
    rw [hob'] at hO
    simp only [RepO] at hO
    obtain ⟨m1, cur, m2, m3, m4⟩ := hO
    obtain ⟨c1, c2, c3, e, ho', hdd, hrf, hput⟩ := RepA.loc p c _ 0 off z m4 hl
    have hl2 : c2.length = te.size := by rw [RepA.len hdd, hz]
    have hl3 := RepA.len hc1
    have hoff : off = c1.length := by omega
    have hfit : off + (a.eval y).cells.toList.length ≤ cur.size := by
      have := congrArg List.length e
      simp only [List.length_append, Array.length_toList] at this
      omega
    have hrun := run_store_at (hT t te ht) m2 rfl (by omega) hfit (RepA.one r.hv _ _ hc1)
    have hcells : cur.toList.take off ++ (a.eval y).cells.toList ++ cur.toList.drop (off + (a.eval y).cells.toList.length) = c1 ++ (a.eval y).cells.toList ++ c3 := by
      rw [e, hoff]
      congr 1
      · rw [List.append_assoc, List.take_left]
      · rw [show c1.length + (a.eval y).cells.toList.length = (c1 ++ c2).length by simp only [List.length_append]; omega, List.drop_left]
    rw [hcells] at hrun
    unfold Oper.wp
    have hrun' : (execOp a.eval o).run P w = .ok .skip (w.setRow (g.blk id) (c1 ++ (a.eval y).cells.toList ++ c3).toArray) := by
      simp only [execOp, ho, hevx, Sem.run_bind, hrun, Result.andThen_ok, Sem.run_pure]
    rw [hrun', Oper.upon_skip, hd]
    have hid : σ'.obj id ≠ none := by rw [hob']; simp
    have hS := (r.own id m1).1
    obtain ⟨k1, k2⟩ := hput (w.setRow (g.blk id) (c1 ++ (a.eval y).cells.toList ++ c3).toArray) g (nilT T t (ev σ y)) (a.eval y).cells.toList c'
      (fun v cs _ hr => RepA.frame (fun _ h => h) (fun k hk _ => setRow_other w (g.blk id) k _ (fun e => hS (by rw [← e]; exact hk))) (fun _ => True) (fun _ _ => rfl) (fun _ _ => rfl) v cs (fun _ _ => trivial) hr)
      (by omega) (RepA.frame (fun _ h => h) (fun k hk _ => setRow_other w (g.blk id) k _ (fun e => hS (by rw [← e]; exact hk))) (fun _ => True) (fun _ _ => rfl) (fun _ _ => rfl) _ _ (fun _ _ => trivial) hc1) hp
    refine ⟨g, r.rewrite m1 hid _ (.box T' sz c') ?_ ?_⟩
    · simp only [RepO]
      refine ⟨m1, _, setRow_heap w _ cur _ T' (0, 0) m2, ?_, by simpa using k1⟩
      have := congrArg List.length e
      simp only [List.length_append, Array.length_toList] at this hl3
      simp only [List.size_toArray, List.length_append, Array.length_toList]
      omega
    · intro T2 sz2 x2 e2 k hk
      cases e2
      rcases k2 k hk with h | h
      · exact r.ok.2.1 id T' sz c hob' k h
      · exact ev_refs r.ok y k (by rw [hA.1 y hmy]; exact nilT_refs h)
  objs := fun q hq => by
    simp only [List.mem_singleton] at hq
    subst hq
    exact .inr ⟨rfl, by simp [looks, ho], x, by simp [wr, ho], by rw [hx]; simp [AV.refs]⟩
  okk := fun σ' hA ok => by
    have hmx : x ∈ o.op.operands := by simp [ho, Op.operands]
    have hmy : y ∈ o.op.operands := by simp [ho, Op.operands]
    have hob' : σ'.obj id = some (.box T' sz c) := by rw [hA.2.2 (by simp [looks, ho]) x hmx id (by rw [hx]; simp [AV.refs])]; exact hob
    rw [hd]
    refine Ok_old ok (by rw [hob']; simp) (fun T2 sz2 x2 e2 k hk => ?_)
    cases e2
    rcases putA_refs _ _ _ _ hp k hk with h | h
    · exact ok.2.1 id T' sz c hob' k h
    · exact ev_refs ok y k (by rw [hA.1 y hmy]; exact nilT_refs h)
  near := fun y h => by rw [ho] at h; simp [carry] at h
end
end Go.Sim
/- What is proved: the step rules for slices: literals, make, append, places in them, parts of them. -/
namespace Go.Sim
open Go.RowKit
section
variable {P : Program} {N : Value → Prop} {T : Tab} {σ : St}
/-! ### Literals and make -/
theorem zeros_rep {w : World} {S : Nat → Prop} {z : DV} {cs : List Value} (h : RepD w S z cs) : ∀ n : Nat, RepF w S (List.replicate n z) (List.replicate n cs.length) (List.replicate n cs).flatten
  | 0 => by simp [RepF]
  | n + 1 => by
    simp only [List.replicate_succ, List.flatten_cons, RepF]
    exact ⟨_, _, _, _, rfl, rfl, rfl, h, zeros_rep h n⟩
theorem madeCells_flat (z : Array Value) (n : Nat) : (madeCells z (n * z.size)).toList = (List.replicate n z.toList).flatten := by
  unfold madeCells
  apply List.ext_getElem?
  intro i
  simp only [Array.toList_map, Array.toList_range, List.getElem?_map]
  by_cases hi : i < n * z.size
  · have hz : 0 < z.size := by
      rcases Nat.eq_zero_or_pos z.size with h | h
      · rw [h] at hi; simp at hi
      · exact h
    rw [List.getElem?_range hi]
    have hm : i % z.size < z.size := Nat.mod_lt _ hz
    have key : ∀ (n i : Nat), i < n * z.size → (List.replicate n z.toList).flatten[i]? = some (z[i % z.size]'(Nat.mod_lt _ hz)) := by
      intro n
      induction n with
      | zero => intro i hi; simp at hi
      | succ n ih =>
        intro i hi
        rw [List.replicate_succ, List.flatten_cons]
        by_cases h1 : i < z.size
        · rw [List.getElem?_append_left (by simpa using h1)]
          simp [Nat.mod_eq_of_lt h1, h1]
        · rw [List.getElem?_append_right (by simpa using h1)]
          rw [Nat.add_mul, Nat.one_mul] at hi
          rw [ih _ (by simp; omega)]
          simp only [Array.length_toList]
          congr 2
          exact (Nat.mod_eq_sub_mod (by omega)).symm
    rw [key n i hi]
    simp [hm]
  · have hlen : (List.replicate n z.toList).flatten.length = n * z.size := by simp
    rw [List.getElem?_eq_none (by simp; omega), List.getElem?_eq_none (by omega)]
    rfl
def buildS (T : Tab) (E : TypeId) (sz : Nat) (σ : St) : List (Nat × Operand) → List DV → Option (List DV)
  | [], xs => some xs
  | (i, x) :: ps, xs =>
    match nilT T E (ev σ x), xs[i]? with
    | .dat d, some _ => if (AV.dat d).lies && Nat.beq d.len sz then buildS T E sz σ ps (xs.set i d) else none
    | _, _ => none
theorem buildS_congr {E : TypeId} {sz : Nat} {σ σ' : St} : ∀ (ps : List (Nat × Operand)) (xs : List DV), (∀ p ∈ ps, ev σ' p.2 = ev σ p.2) → buildS T E sz σ' ps xs = buildS T E sz σ ps xs
  | [], _, _ => rfl
  | (i, x) :: ps, xs, h => by
    have h1 := h (i, x) (by simp)
    simp only at h1
    simp only [buildS, h1]
    split
    · split
      · exact buildS_congr ps _ (fun p hp => h p (by simp [hp]))
      · rfl
    · rfl
theorem buildS_run {B : Nat → Nat → Prop} {F : Cx} {w0 w : World} {n : Nat} {a : Act} {g : Gh} (r : RelG B F w0 n σ a w g) {E : TypeId} {sz : Nat} :
    ∀ (ps : List (Nat × Operand)) (xs ys : List DV) (cells : Array Value), RepF w g.S xs (List.replicate xs.length sz) cells.toList → buildS T E sz σ ps xs = some ys →
      ∃ cells', Instr.fill (fun i => some (i * sz, sz)) cells (ps.map fun p => (p.1, a.eval p.2)) = some cells' ∧ ys.length = xs.length ∧ RepF w g.S ys (List.replicate ys.length sz) cells'.toList ∧ cells'.size = cells.size
  | [], xs, ys, cells, h, hb => by simp only [buildS, Option.some.injEq] at hb; subst hb; exact ⟨cells, rfl, rfl, h, rfl⟩
  | (i, x) :: ps, xs, ys, cells, h, hb => by
    simp only [buildS] at hb
    split at hb
    · rename_i d z hd hz
      split at hb
      · rename_i hc
        simp only [Bool.and_eq_true] at hc
        obtain ⟨c1, c2⟩ := hc
        have c2 := Nat.eq_of_beq_eq_true c2
        have hS := nilT_rep (T := T) (t := E) (ev_rep r x)
        rw [hd] at hS
        obtain ⟨hcells, _, _⟩ := RepS.cells r.hv hS c1
        have hlen : (a.eval x).cells.size = sz := by have := RepA.len hcells; simp only [AV.len, Array.length_toList] at this; omega
        have hi : i < xs.length := (List.getElem?_eq_some_iff.1 hz).1
        obtain ⟨d1, d2, d3, m, hm, e, hl1, hl2, hdd, hput⟩ := RepF.at h hz
        rw [take_replicate_sum _ _ _ (Nat.le_of_lt hi)] at hl1
        have hm' : m = sz := by simp only [List.getElem?_replicate, hi, if_true, Option.some.injEq] at hm; exact hm.symm
        have hfit : i * sz + (a.eval x).cells.size ≤ cells.size := by
          have := congrArg List.length e
          simp only [List.length_append, Array.length_toList] at this
          omega
        have hset := foldl_set (a.eval x).cells.toList (i * sz) 0 cells (by simpa using hfit)
        simp only [Nat.add_zero, Array.length_toList] at hset
        have hnew : RepF w g.S (xs.set i d) (List.replicate (xs.set i d).length sz) (((a.eval x).cells.toList.zipIdx 0).foldl (fun cs (p : Value × Nat) => cs.setIfInBounds (i * sz + p.2) p.1) cells).toList := by
          rw [hset]
          have := hput w g.S d (a.eval x).cells.toList (fun _ _ h => h) (by simp only [Array.length_toList]; omega) hcells
          rw [e]
          rw [show (d1 ++ d2 ++ d3).take (i * sz) = d1 by rw [← hl1, List.append_assoc]; simp]
          rw [show (d1 ++ d2 ++ d3).drop (i * sz + (a.eval x).cells.size) = d3 by rw [← hl1, show (a.eval x).cells.size = d2.length by omega, ← List.length_append]; simp]
          simpa using this
        obtain ⟨cells', h1, h2, h3, h4⟩ := buildS_run r ps _ ys _ hnew hb
        have hsz : (((a.eval x).cells.toList.zipIdx 0).foldl (fun cs (p : Value × Nat) => cs.setIfInBounds (i * sz + p.2) p.1) cells).size = cells.size := by
          rw [← Array.length_toList, hset]
          simp only [List.length_append, List.length_take, List.length_drop, Array.length_toList]
          omega
        refine ⟨cells', ?_, by simpa using h2, h3, h4.trans hsz⟩
        simp only [List.map_cons, Instr.fill]
        rw [if_neg (by simp only [Bool.or_eq_true, decide_eq_true_eq, not_or]; exact ⟨by simpa using hlen, by omega⟩)]
        have hz : (a.eval x).cells.zipIdx.foldl (fun cs (x : Value × Nat) => match x with | (c, j) => cs.setIfInBounds (i * sz + j) c) cells = ((a.eval x).cells.toList.zipIdx 0).foldl (fun cs (p : Value × Nat) => cs.setIfInBounds (i * sz + p.2) p.1) cells := by
          rw [← Array.foldl_toList, Array.toList_zipIdx]
        rw [hz]
        exact h1
      · cases hb
    · cases hb
theorem madeCells_eq (z : Array Value) (n : Nat) : (Array.range n).map (z[· % z.size]!) = madeCells z n := rfl
theorem run_buildSlice (hT : TabOk P T) {B : Nat → Nat → Prop} {F : Cx} {w0 w : World} {n : Nat} {a : Act} {g : Gh} (r : RelG B F w0 n σ a w g) {t : TypeId} {m : Nat} {ps : Array (Nat × Operand)} {E : TypeId} {te : TE} {ys : List DV}
    (hs : slE T t = some (E, te)) (hm : m * te.size ≤ 16777216) (hb : buildS T E te.size σ ps.toList (List.replicate m te.zero) = some ys) :
    ∃ cs : Array Value, (Instr.buildSlice t m (ps.map fun (i, x) => (i, a.eval x))).run P w = .ok (.slice (some ⟨w.heap.size, 0, none⟩) m m) (w.alloc (.cells cs E)) ∧
      ys.length = m ∧ RepF w g.S ys (List.replicate ys.length te.size) cs.toList ∧ cs.size = m * te.size := by
  obtain ⟨hu, hE, _⟩ := slE_ok hT hs
  obtain ⟨z, hz, hzU, hzs, hzl⟩ := run_zero hE w g.S
  have hsz := run_sizeOf hE w
  have hz0 := zeros_rep (hzU.cells) m
  have hcl : z.cells.toList.length = te.size := by simpa using hzs
  rw [hcl] at hz0
  have hinit : RepF w g.S (List.replicate m te.zero) (List.replicate (List.replicate m te.zero).length te.size) (madeCells z.cells (m * te.size)).toList := by
    rw [← hzs, madeCells_flat, List.length_replicate, hzs]; exact hz0
  obtain ⟨cells', h1, h2, h3, h4⟩ := buildS_run r ps.toList _ ys _ hinit hb
  refine ⟨cells', ?_, by simpa using h2, h3, by rw [h4, size_madeCells]⟩
  have e2 : (ps.map fun (x : Nat × Operand) => (x.1, a.eval x.2)).toList = ps.toList.map fun p => (p.1, a.eval p.2) := by simp
  have h24 : ¬ (m * te.size > 2 ^ 24) := by omega
  unfold Instr.buildSlice
  simp only [Sem.run_bind, run_underlying hu, Result.andThen_ok, hsz]
  rw [if_neg h24]
  by_cases h0 : m * te.size = 0
  · have hmz : madeCells z.cells 0 = #[] := by simp [madeCells, Array.range_zero']
    rw [h0, hmz] at h1
    simp only [h0, if_true, Array.range_zero', e2]
    simp [h1, newRow]
  · simp only [h0, if_false]
    simp only [Sem.run_bind, Sem.run_pure, hz, Result.andThen_ok, madeCells_eq, e2, h1]
    simp [newRow]
end
end Go.Sim
/- What is proved: the step rules for slices that are made, appended to, read at a place, and cut. -/
namespace Go.Sim
open Go.RowKit
section
variable {P : Program} {N : Value → Prop} {T : Tab} {σ : St}
/-- A new slice that is shared from the first. -/
theorem Step.newsl {c : Bool} {o : Oper} {E : TypeId} {sz : Nat} {ys : List DV}
    (h : ∀ σ', Agree o σ σ' → ∀ (B : Nat → Nat → Prop) (F : Cx) (w0 : World) (n : Nat) (a : Act) (w : World) (g : Gh), RelG B F w0 n σ' a w g →
      ∃ (cs : Array Value) (m : Nat), (execOp a.eval o).run P w = .ok (.value (.slice (some ⟨w.heap.size, 0, none⟩) ys.length m)) (w.alloc (.cells cs E)) ∧ ys.length ≤ m ∧
        RepF w g.S ys (List.replicate ys.length sz) (cs.toList.take (ys.length * sz))) : Step P N c σ o ⟨.dat (.sl E sz ys), []⟩ where
  ok := by
    rintro σ' hA B F w0 n a w hdn ⟨g, r⟩ Q _
    obtain ⟨cs, m, h1, h2, h3⟩ := h σ' hA B F w0 n a w g r
    unfold Oper.wp
    rw [h1, Oper.upon_value]
    have hold : ∀ k, k < w.heap.size → (w.alloc (.cells cs E)).heap[k]? = w.heap[k]? := fun k hk => heap_alloc_old w _ k hk
    have r2 := r.world (w' := w.alloc (.cells cs E)) rfl rfl rfl (by simp) hold (fun k => k = w.heap.size) (fun k hk => by subst hk; simp)
    refine ⟨_, RelG.putO r2 o.dst (x := .dat (.sl E sz ys)) ?_ (fun k hk => by simp [AV.refs] at hk) hdn⟩
    simp only [RepS, RepV, RepD]
    refine ⟨_, m, _, rfl, h2, RepF.frame (fun _ hk => .inl hk) (fun k _ hk => hold k hk) _ _ _ h3, .inr ⟨w.heap.size, 0, rfl, .inr rfl, fun j u hj => ?_⟩⟩
    rw [cell_of_row _ _ _ cs E (0, 0) (heap_alloc_new w _), Nat.zero_add]
    rw [List.getElem?_take] at hj
    split at hj
    · simpa using hj
    · cases hj
  objs := fun p hp => by cases hp
  okk := fun σ' _ ok => Ok_dat ok o.dst _
  near := fun _ _ k hk => by simp [AV.refs] at hk
theorem ops_build {o : Oper} {t : TypeId} {m : Nat} {ps : Array (Nat × Operand)} (ho : o.op = .buildSlice t m ps) : ∀ p ∈ ps.toList, p.2 ∈ o.op.operands := by
  intro p hp; rw [ho]; simp only [Op.operands, List.mem_toArray, List.mem_map]; exact ⟨p, hp, rfl⟩
/-- A literal, shared. -/
theorem Step.lit (hT : TabOk P T) {c : Bool} {o : Oper} {t : TypeId} {m : Nat} {ps : Array (Nat × Operand)} {E : TypeId} {te : TE} {ys : List DV} (ho : o.op = .buildSlice t m ps)
    (hs : slE T t = some (E, te)) (hm : m * te.size ≤ 16777216) (hb : buildS T E te.size σ ps.toList (List.replicate m te.zero) = some ys) : Step P N c σ o ⟨.dat (.sl E te.size ys), []⟩ := by
  refine Step.newsl (fun σ' hA B F w0 n a w g r => ?_)
  have hb' : buildS T E te.size σ' ps.toList (List.replicate m te.zero) = some ys := by rw [buildS_congr _ _ (fun p hp => hA.1 p.2 (ops_build ho p hp))]; exact hb
  obtain ⟨cs, h1, h2, h3, h4⟩ := run_buildSlice hT r hs hm hb'
  refine ⟨cs, m, ?_, by omega, ?_⟩
  · simp only [execOp, ho, Sem.run_bind, h1, Result.andThen_ok, Sem.run_pure, h2]
  · rw [List.take_of_length_le (by simp [h4, h2])]; exact h3
/-- A literal, one's own. -/
theorem Step.litown (hT : TabOk P T) {c : Bool} {o : Oper} {d : Nat} {t : TypeId} {m : Nat} {ps : Array (Nat × Operand)} {E : TypeId} {te : TE} {ys : List DV} (ho : o.op = .buildSlice t m ps) (hd : o.dst = some d) (hn : σ.obj d = none)
    (hs : slE T t = some (E, te)) (hm : m * te.size ≤ 16777216) (hm2 : m ≤ maxLen) (hb : buildS T E te.size σ ps.toList (List.replicate m te.zero) = some ys) : Step P N c σ o ⟨.oref d, [(d, .row E te.size ys)]⟩ := by
  refine Step.new hd hn (fun σ' _ _ T sz y e => by cases e) (fun k hk => by simpa [AV.refs] using hk) (fun σ' hA B F w0 n a w g r hn' => ?_)
  have hb' : buildS T E te.size σ' ps.toList (List.replicate m te.zero) = some ys := by rw [buildS_congr _ _ (fun p hp => hA.1 p.2 (ops_build ho p hp))]; exact hb
  obtain ⟨cs, h1, h2, h3, h4⟩ := run_buildSlice hT r hs hm hb'
  refine ⟨cs, E, .slice (some ⟨w.heap.size, 0, none⟩) m m, .slice (some ⟨w.heap.size, 0, none⟩) m m, ?_, rfl, .inr ⟨te.size, ys, m, rfl, by rw [h2], h4, by omega, hm2, ?_⟩, ?_⟩
  · simp only [execOp, ho, Sem.run_bind, h1, Result.andThen_ok, Sem.run_pure]
  · rw [List.take_of_length_le (by simp [h4, h2])]; exact h3
  · simp [RepS, upd_same]
theorem run_mk (hT : TabOk P T) {w : World} {t E : TypeId} {te : TE} (hs : slE T t = some (E, te)) {k k' : IntKind} {m : Int} (h0 : 0 ≤ m) (hb : (te.bytes : Int) * m ≤ 281474976710656) (h63 : m ≤ 9223372036854775807) (S : Nat → Prop) :
    ∃ cs : Array Value, (Instr.makeSlice t (.int k m) (.int k' m)).run P w = .ok (.slice (some ⟨w.heap.size, 0, none⟩) m.toNat m.toNat) (w.alloc (.cells cs E)) ∧
      RepF w S (List.replicate m.toNat te.zero) (List.replicate (List.replicate m.toNat te.zero).length te.size) cs.toList ∧ cs.size = m.toNat * te.size := by
  obtain ⟨hu, hE, _⟩ := slE_ok hT hs
  obtain ⟨z, hz, hzU, hzs, hzl⟩ := run_zero hE w S
  obtain ⟨i, d, z', q1, q2, q3, q4, q5, q6, _⟩ := hE
  have hzz : z' = z := by simp [zeroValue, typeInfo, q1, q6] at hz; exact hz
  subst hzz
  have hr := run_make (P := P) w t E i z' hu q1 q6 k k' m m h0 (Int.le_refl _) (by rw [q5]; exact hb) h63
  refine ⟨_, hr, ?_, by rw [size_madeCells, q4]⟩
  have hz0 := zeros_rep (hzU.cells) m.toNat
  have hcl : z'.cells.toList.length = te.size := by simpa using hzs
  rw [hcl] at hz0
  rw [q4, ← hzs, madeCells_flat, List.length_replicate, hzs]
  exact hz0
/-- A slice that is made, one's own. -/
theorem Step.makeown (hT : TabOk P T) {c : Bool} {o : Oper} {d : Nat} {t : TypeId} {x y : Operand} {E : TypeId} {te : TE} {k k' : IntKind} {m : Int} (ho : o.op = .makeSlice t x y) (hd : o.dst = some d) (hn : σ.obj d = none)
    (hs : slE T t = some (E, te)) (hx : ev σ x = .dat (.v (.int k m))) (hy : ev σ y = .dat (.v (.int k' m))) (h0 : 0 ≤ m) (hb : (te.bytes : Int) * m ≤ 281474976710656) (h63 : m ≤ 9223372036854775807) :
    Step P N c σ o ⟨.oref d, [(d, .row E te.size (List.replicate m.toNat te.zero))]⟩ := by
  have hmx : x ∈ o.op.operands := by simp [ho, Op.operands]
  have hmy : y ∈ o.op.operands := by simp [ho, Op.operands]
  refine Step.new hd hn (fun σ' _ _ T sz y e => by cases e) (fun k hk => by simpa [AV.refs] using hk) (fun σ' hA B F w0 n a w g r hn' => ?_)
  have e1 := raw_eval (ev_rep r x) (by rw [hA.1 x hmx, hx]; rfl)
  have e2 := raw_eval (ev_rep r y) (by rw [hA.1 y hmy, hy]; rfl)
  obtain ⟨cs, h1, h3, h4⟩ := run_mk hT (w := w) (k := k) (k' := k') hs h0 hb h63 g.S
  refine ⟨cs, E, .slice (some ⟨w.heap.size, 0, none⟩) m.toNat m.toNat, .slice (some ⟨w.heap.size, 0, none⟩) m.toNat m.toNat, ?_, rfl, .inr ⟨te.size, _, m.toNat, rfl, by rw [List.length_replicate], h4, by simp, by simp only [maxLen]; omega, ?_⟩, ?_⟩
  · simp only [execOp, ho, e1, e2, Sem.run_bind, h1, Result.andThen_ok, Sem.run_pure]
  · rw [List.take_of_length_le (by simp [h4])]; exact h3
  · simp [RepS, upd_same]
/-- A slice that is made, shared. -/
theorem Step.make (hT : TabOk P T) {c : Bool} {o : Oper} {t : TypeId} {x y : Operand} {E : TypeId} {te : TE} {k k' : IntKind} {m : Int} (ho : o.op = .makeSlice t x y)
    (hs : slE T t = some (E, te)) (hx : ev σ x = .dat (.v (.int k m))) (hy : ev σ y = .dat (.v (.int k' m))) (h0 : 0 ≤ m) (hb : (te.bytes : Int) * m ≤ 281474976710656) (h63 : m ≤ 9223372036854775807) :
    Step P N c σ o ⟨.dat (.sl E te.size (List.replicate m.toNat te.zero)), []⟩ := by
  have hmx : x ∈ o.op.operands := by simp [ho, Op.operands]
  have hmy : y ∈ o.op.operands := by simp [ho, Op.operands]
  refine Step.newsl (fun σ' hA B F w0 n a w g r => ?_)
  have e1 := raw_eval (ev_rep r x) (by rw [hA.1 x hmx, hx]; rfl)
  have e2 := raw_eval (ev_rep r y) (by rw [hA.1 y hmy, hy]; rfl)
  obtain ⟨cs, h1, h3, h4⟩ := run_mk hT (w := w) (k := k) (k' := k') hs h0 hb h63 g.S
  refine ⟨cs, m.toNat, ?_, by simp, ?_⟩
  · simp only [execOp, ho, e1, e2, Sem.run_bind, h1, Result.andThen_ok, Sem.run_pure, List.length_replicate]
  · rw [List.take_of_length_le (by simp [h4])]; exact h3
/-! ### Append -/
theorem RepF.replicate_append {w : World} {S : Nat → Prop} {xs ys : List DV} {sz : Nat} {cs ds : List Value} (h : RepF w S xs (List.replicate xs.length sz) cs) (k : RepF w S ys (List.replicate ys.length sz) ds) :
    RepF w S (xs ++ ys) (List.replicate (xs ++ ys).length sz) (cs ++ ds) := by
  have := RepF.append h k
  rwa [List.replicate_append_replicate, ← List.length_append] at this
/-- What is appended: a slice of closed data, or one's own. -/
def srcOk (σ : St) (x : Operand) (sz : Nat) (ys : List DV) : Prop :=
  (∃ E', ev σ x = .dat (.sl E' sz ys)) ∨ (∃ id E', ev σ x = .oref id ∧ σ.obj id = some (.row E' sz ys))
theorem src_rep {B : Nat → Nat → Prop} {F : Cx} {w0 w : World} {n : Nat} {a : Act} {g : Gh} (r : RelG B F w0 n σ a w g) {x : Operand} {sz : Nat} {ys : List DV} (h : srcOk σ x sz ys) :
    ∃ ad c row, a.eval x = .slice ad ys.length c ∧ RepF w g.S ys (List.replicate ys.length sz) row ∧ (∀ b, ad = some b → ∀ j u, row[j]? = some u → w.cell? (b.add j) = some u) ∧ (ad = none → row = []) := by
  have hev := ev_rep r x
  rcases h with ⟨E', e⟩ | ⟨id, E', e, ho⟩
  · rw [e] at hev
    simp only [RepS, RepV, RepD] at hev
    obtain ⟨ad, c, row, e1, h1, h2, h3⟩ := hev
    simp only [List.cons.injEq, and_true] at e1
    refine ⟨ad, c, row, e1, h2, ?_, ?_⟩
    · intro b hb j u hj
      rcases h3 with rfl | ⟨b', o', rfl, _, hc⟩
      · simp at hj
      · cases hb; rw [addr_add]; exact hc j u hj
    · rintro rfl
      rcases h3 with rfl | ⟨b', o', h, _⟩
      · rfl
      · cases h
  · rw [e] at hev
    simp only [RepS] at hev
    have hO := r.objs id
    rw [ho] at hO
    simp only [RepO] at hO
    rcases hO with ⟨m1, rfl, m3⟩ | ⟨m1, c, cur, m2, m3, m4, m5, m6, m7⟩
    · exact ⟨none, 0, [], by rw [hev, m3]; rfl, by simp [RepF], by simp⟩
    · refine ⟨_, c, _, by rw [hev, m2], m7, ?_, fun h => by cases h⟩
      intro b hb j u hj
      cases hb
      rw [addr_add, Nat.zero_add, cell_of_row w _ _ cur E' (0, 0) m3]
      rw [List.getElem?_take] at hj
      split at hj
      · simpa using hj
      · cases hj
theorem rowOwns {w : World} {g : Gh} {id : Nat} {E : TypeId} {sz : Nat} {xs : List DV} (hO : RepO w g id (some (.row E sz xs))) : ∃ cells, w.ownsRow 0 E sz (g.hdr id) xs.length cells ∧ RepF w g.S xs (List.replicate xs.length sz) cells := by
  simp only [RepO] at hO
  rcases hO with ⟨m1, rfl, m3⟩ | ⟨m1, c, cur, m2, m3, m4, m5, m6, m7⟩
  · exact ⟨[], by rw [m3]; exact World.ownsRow_nil w 0 E sz, by simp [RepF]⟩
  · refine ⟨_, ⟨?_, .inr ⟨_, c, cur, m2, Nat.zero_le _, m3, m5, m6, m4, rfl⟩⟩, m7⟩
    simp only [List.length_take, Array.length_toList, m4]
    exact Nat.min_eq_left (Nat.mul_le_mul_right _ m5)
theorem Step.append (hT : TabOk P T) {o : Oper} {d id : Nat} {t E : TypeId} {te : TE} {x y : Operand} {xs ys : List DV}
    (ho : o.op = .call { callee := .builtin .append, args := #[x, y], argTypes := #[t, t] }) (hd : o.dst = some d) (hn : σ.obj d = none) (hs : slE T t = some (E, te)) (hsz : 0 < te.size)
    (hx : ev σ x = .oref id) (hob : σ.obj id = some (.row E te.size xs)) (hy : srcOk σ y te.size ys) (h63 : xs.length + ys.length ≤ maxLen) (hby : (xs.length + ys.length) * te.bytes ≤ 140737488355328) (hlid : id < 1000000) :
    Step P N true σ o ⟨.oref d, [(id, .gone), (d, .row E te.size (xs ++ ys))]⟩ where
  ok := by
    rintro σ' hA B F w0 n a w hdn ⟨g, r⟩ Q _
    have hmx : x ∈ o.op.operands := by simp [ho, Op.operands, Call.operands]
    have hmy : y ∈ o.op.operands := by simp [ho, Op.operands, Call.operands]
    have hlk : looks o = true := by simp [looks, ho]
    have hn' := hA.2.1 d hd hn
    have hob' : σ'.obj id = some (.row E te.size xs) := by rw [hA.2.2 hlk x hmx id (by rw [hx]; simp [AV.refs])]; exact hob
    have hy' : srcOk σ' y te.size ys := by
      rcases hy with ⟨E', e⟩ | ⟨id', E', e, h⟩
      · exact .inl ⟨E', by rw [hA.1 y hmy, e]⟩
      · exact .inr ⟨id', E', by rw [hA.1 y hmy, e], by rw [hA.2.2 hlk y hmy id' (by rw [e]; simp [AV.refs])]; exact h⟩
    have hevx := ev_rep r x
    rw [hA.1 x hmx, hx] at hevx
    simp only [RepS] at hevx
    obtain ⟨ad, c, row, e1, h1, h2, h3⟩ := src_rep r hy'
    have hO := r.objs id
    rw [hob'] at hO
    obtain ⟨cells, hown, hcells⟩ := rowOwns hO
    obtain ⟨hu, hE, _⟩ := slE_ok hT hs
    obtain ⟨i, dd, z, q1, q2, q3, q4, q5, q6, q7, q8, q9, q10⟩ := hE
    have hzs : z.cells.size = te.size := by
      have := RepD.len (RepD.of_flat (w := w) (S := g.S) _ _ q7)
      simpa [q10] using this
    have hrowlen : row.length = ys.length * te.size := by have := (RepF.length h1).1; simpa using this
    have hrow1 := RepF.one ys _ row h1
    have hsmall : xs.length + ys.length ≤ 9223372036854775807 := by simp only [maxLen] at h63; omega
    have hlen2 : (cells ++ row).length = (xs.length + ys.length) * te.size := by rw [List.length_append, hown.1, hrowlen, Nat.add_mul]
    have grown : ∀ old, old < xs.length + ys.length → ∀ rw' : Option Nat,
        (w.drew.alloc (.cells (cells.toArray ++ row.toArray ++ Builtin.zeroCells z.cells (grownCap w (xs.length + ys.length) old E - (xs.length + ys.length))) E)).ownsRow 0 E te.size
          (.slice (some ⟨w.heap.size, 0, none⟩) (xs.length + ys.length) (grownCap w (xs.length + ys.length) old E)) (xs.length + ys.length) (cells ++ row) ∧
        w.grownBy (w.drew.alloc (.cells (cells.toArray ++ row.toArray ++ Builtin.zeroCells z.cells (grownCap w (xs.length + ys.length) old E - (xs.length + ys.length))) E)) rw' := by
      intro old hold rw'
      have hge := grownCap_ge w (xs.length + ys.length) old E
      have hcm := grownCap_le_maxLen w (xs.length + ys.length) old E h63
      refine ⟨⟨hlen2, .inr ⟨w.heap.size, _, _, rfl, Nat.zero_le _, heap_alloc_new w.drew _, hge, hcm, ?_, ?_⟩⟩, ⟨rfl, rfl, rfl, by simp, fun k hk _ => heap_alloc_old w.drew _ k hk⟩⟩
      · simp only [Array.size_append, List.size_toArray, size_zeroCells, hzs, hown.1, hrowlen, ← Nat.add_mul]
        congr 1
        omega
      · simp only [Array.toList_append, List.append_assoc]
        rw [← List.append_assoc, ← hlen2]
        exact List.take_left
    have key : ∃ v' w', (Builtin.append_ #[t, t] o.type #[g.hdr id, .slice ad ys.length c]).run P w = .ok v' w' ∧ w'.ownsRow 0 E te.size v' (xs.length + ys.length) (cells ++ row) ∧ w.grownBy w' (g.hdr id).ownBlock ∧
        (∀ k, v'.ownBlock = some k → (w.heap.size ≤ k ∧ k < w'.heap.size) ∨ (g.has id ∧ k = g.blk id)) := by
      have hhdr := hO
      simp only [RepO] at hhdr
      rcases Nat.eq_zero_or_pos ys.length with hl | hl
      · have hr : row = [] := List.eq_nil_of_length_eq_zero (by rw [hrowlen, hl]; simp)
        subst hr
        refine ⟨g.hdr id, w, ?_, by rw [hl]; simpa using hown, ⟨rfl, rfl, rfl, Nat.le_refl _, fun _ _ _ => rfl⟩, fun k hk => ?_⟩
        · have hf : ∀ q : Nat, (Builtin.firstCells q 0 (.slice ad 0 c)).run P w = .ok #[] w := by
            intro q
            cases ad with
            | none => simp [Builtin.firstCells]
            | some b => simpa using run_firstCells_some (P := P) w q 0 b 0 c [] (by simp) (by simp)
          rw [hl]
          rcases hown.2 with ⟨e, e'⟩ | ⟨bb, cap, cur, e, _, _, hnc, _⟩
          · rw [e]; simp [Builtin.append_, run_underlying hu, sizeOf, typeInfo, q1, Builtin.lenOf, hf]
          · rw [e]; simp [Builtin.append_, run_underlying hu, sizeOf, typeInfo, q1, Builtin.lenOf, hf, hnc, storeCells]
        · rcases hhdr with ⟨m1, m2, m3⟩ | ⟨m1, c', cur, m2, _⟩
          · rw [m3] at hk; simp [Value.ownBlock] at hk
          · rw [m2] at hk; simp [Value.ownBlock] at hk; exact .inr ⟨m1, hk.symm⟩
      · cases ad with
        | none =>
          have := h3 rfl
          rw [this] at hrowlen
          simp only [List.length_nil] at hrowlen
          have := Nat.mul_pos hl hsz
          omega
        | some b =>
          rcases hhdr with ⟨m1, m2, m3⟩ | ⟨m1, c', cur, m2, m3, m4, m5, m6, m7⟩
          · have hc0 : cells = [] := List.eq_nil_of_length_eq_zero (by rw [hown.1, m2]; simp)
            have hr := run_append_nil (P := P) w t o.type E i z hu q1 q6 b ys.length c row (by rw [q4]; exact hrowlen) (h2 b rfl) hl (by omega) (by rw [q5]; have := hby; rw [m2] at this; simp at this; omega)
            have hgr := grown 0 (by omega) (g.hdr id).ownBlock
            have hxl : xs.length = 0 := by rw [m2]; rfl
            simp only [hc0, hxl, Nat.zero_add, List.nil_append, Array.empty_append] at hgr ⊢
            exact ⟨_, _, by rw [m3]; exact hr, hgr.1, hgr.2, fun k hk => by simp [Value.ownBlock] at hk; subst hk; exact .inl ⟨Nat.le_refl _, by simp⟩⟩
          · by_cases hroom : xs.length + ys.length ≤ c'
            · have hown' := hown
              rw [m2] at hown'
              obtain ⟨w', a1, a2, a3⟩ := run_append_fits (P := P) w 0 t o.type E i te.size hu q1 q4 (g.blk id) xs.length c' cells hown' b ys.length c row hrowlen (h2 b rfl) hrow1 hroom
              exact ⟨_, w', by rw [m2]; exact a1, a2, by rw [m2]; exact a3, fun k hk => by simp [Value.ownBlock] at hk; exact .inr ⟨m1, hk.symm⟩⟩
            · have holds : ∀ j u, cells[j]? = some u → w.cell? ((⟨g.blk id, 0, none⟩ : Addr).add j) = some u := hown.cells (g := g.blk id) (by rw [m2]; rfl)
              have hr := run_append_grow (P := P) w t o.type E i z hu q1 q6 ⟨g.blk id, 0, none⟩ xs.length c' cells (by rw [q4]; exact hown.1) holds b ys.length c row (by rw [q4]; exact hrowlen) (h2 b rfl) (by omega) (by omega) (by rw [q5]; exact growslice_fits (by omega) hby)
              have hgr := grown c' (by omega) (g.hdr id).ownBlock
              exact ⟨_, _, by rw [m2]; exact hr, hgr.1, hgr.2, fun k hk => by simp [Value.ownBlock] at hk; subst hk; exact .inl ⟨Nat.le_refl _, by simp⟩⟩
    obtain ⟨v', w', k1, k2, k3, k4⟩ := key
    unfold Oper.wp
    have hrun : (execOp a.eval o).run P w = .ok (.value v') w' := by
      simp [execOp, ho, resolve, invoke, builtin, hevx, e1, k1]
    rw [hrun, Oper.upon_value, hd]
    have hnewF := RepF.replicate_append hcells h1
    have hkeep : ∀ k, k < w.heap.size → (g.has id → k ≠ g.blk id) → w'.heap[k]? = w.heap[k]? := by
      intro k hk hne
      refine k3.block k hk (fun e => ?_)
      simp only [RepO] at hO
      rcases hO with ⟨m1, m2, m3⟩ | ⟨m1, c', cur, m2, _⟩
      · rw [m3] at e; simp [Value.ownBlock] at e
      · rw [m2] at e; simp [Value.ownBlock] at e; exact hne m1 e
    have hv1 : v'.oneCell' = true := by
      rcases k2.2 with ⟨rfl, _⟩ | ⟨bb, cap, cur, rfl, _⟩ <;> rfl
    have hnotnil : ∀ bb cap, v' = .slice (some ⟨bb, 0, none⟩) (xs.length + ys.length) cap → (w.heap.size ≤ bb ∧ bb < w'.heap.size) ∨ (g.has id ∧ bb = g.blk id) := fun bb cap e => k4 bb (by rw [e]; rfl)
    rcases k2.2 with ⟨e, e'⟩ | ⟨bb, cap, cur, e, _, hbb, hnc, hcm, hcs, htake⟩
    · have hx0 : xs = [] := List.eq_nil_of_length_eq_zero (by omega)
      have hy0 : ys = [] := List.eq_nil_of_length_eq_zero (by omega)
      have r2 := r.reown (Nat.lt_of_lt_of_le (hdn d hd) r.nlt) hlid (by rw [hob']; simp) hn' k3.os k3.tape k3.output k3.size hkeep 0 v' hv1 False (fun h => h.elim) E te.size (xs ++ ys) (.inl ⟨fun h => h, by rw [hx0, hy0]; rfl, e⟩)
      exact ⟨_, r2.put (x := .oref d) (by simp [RepS, upd_same]) (fun k hk => by simp only [AV.refs] at hk; rw [hk, St.obj_set, if_pos rfl]; simp) (hdn d hd)⟩
    · have r2 := r.reown (Nat.lt_of_lt_of_le (hdn d hd) r.nlt) hlid (by rw [hob']; simp) hn' k3.os k3.tape k3.output k3.size hkeep bb v' hv1 True (fun _ => hnotnil bb cap e) E te.size (xs ++ ys) (.inr ⟨trivial, cap, cur, by rw [List.length_append]; exact e, hbb, hcs, by rw [List.length_append]; exact hnc, hcm, by rw [List.length_append, htake, ← List.length_append]; exact hnewF⟩)
      exact ⟨_, r2.put (x := .oref d) (by simp [RepS, upd_same]) (fun k hk => by simp only [AV.refs] at hk; rw [hk, St.obj_set, if_pos rfl]; simp) (hdn d hd)⟩
  objs := fun q hq => by
    simp only [List.mem_cons, List.not_mem_nil, or_false] at hq
    rcases hq with rfl | rfl
    · exact .inr ⟨rfl, by simp [looks, ho], x, by simp [wr, ho, Op.operands, Call.operands], by rw [hx]; simp [AV.refs]⟩
    · exact .inl ⟨hd, hn⟩
  okk := fun σ' hA ok => by
    have h1 := Ok_set (Ok_set ok (d := id) (o := .gone) (fun _ _ _ e => by cases e)) (d := d) (o := .row E te.size (xs ++ ys)) (fun _ _ _ e => by cases e)
    rw [hd]
    refine ⟨fun i k hk => ?_, ok_tail (app_obj _ _ _) h1.2⟩
    rw [app_slot] at hk
    rw [app_obj]
    simp only [setAll]
    split at hk
    · simp only [AV.refs] at hk; rw [hk, St.obj_set, if_pos rfl]; simp
    · exact h1.1 i k hk
  near := fun y h => by rw [ho] at h; simp [carry] at h
  made := fun _ k hk => by simp only [AV.refs] at hk; rw [hk]; exact hd
end
end Go.Sim
/- What is proved: the step rules for places in slices, arrays and strings, for cuts, and for operators that ask something of their operands. -/
namespace Go.Sim
open Go.RowKit
section
variable {P : Program} {N : Value → Prop} {T : Tab} {σ : St}
/-- An operator on plain values, whatever it asks being shown. -/
theorem Step.bin {c : Bool} {o : Oper} {op : BinOp} {t t' : TypeId} {x y : Operand} {u v r : Value} (ho : o.op = .binOp op t x y t') (hx : (ev σ x).raw = some u) (hy : (ev σ y).raw = some v) (h : rbin op u v = some r) :
    Step P N c σ o ⟨.dat (.v r), []⟩ := by
  refine Step.value (fun σ' hA B F w0 n a w g rr => ?_) (fun _ _ _ k hk => by simp [AV.refs] at hk)
  have e1 := raw_eval (ev_rep rr x) (by rw [hA.1 x (by simp [ho, Op.operands])]; exact hx)
  have e2 := raw_eval (ev_rep rr y) (by rw [hA.1 y (by simp [ho, Op.operands])]; exact hy)
  have h1 : r.oneCell' = true := by
    cases u <;> cases v <;> first
      | (simp [rbin] at h; done)
      | (cases op <;> simp only [rbin] at h <;> (repeat' split at h) <;> first | (cases h; done) | (simp only [Option.some.injEq] at h; subst h; rfl))
  exact ⟨r, by simp [execOp, ho, e1, e2, eqGuard_raw h, run_rbin h w], rep_raw h1⟩
def farith (op : BinOp) (k : FloatKind) (a b : Nat) : Option Nat :=
  match op with
  | .add => k.format.add a b
  | .sub => k.format.sub a b
  | .mul => k.format.mul a b
  | .quo => k.format.div a b
  | _ => none
/-- Arithmetic of floats, where it yields a number. -/
theorem Step.flt {c : Bool} {o : Oper} {op : BinOp} {t t' : TypeId} {x y : Operand} {k : FloatKind} {u v r : Nat} (ho : o.op = .binOp op t x y t') (hx : ev σ x = .dat (.v (.float k u))) (hy : ev σ y = .dat (.v (.float k v)))
    (h : farith op k u v = some r) : Step P N c σ o ⟨.dat (.v (.float k r)), []⟩ := by
  refine Step.value (fun σ' hA B F w0 n a w g rr => ?_) (fun _ _ _ k hk => by simp [AV.refs] at hk)
  have e1 := raw_eval (ev_rep rr x) (by rw [hA.1 x (by simp [ho, Op.operands]), hx]; rfl)
  have e2 := raw_eval (ev_rep rr y) (by rw [hA.1 y (by simp [ho, Op.operands]), hy]; rfl)
  refine ⟨.float k r, ?_, rep_raw rfl⟩
  cases op <;> simp only [farith] at h <;> first | (cases h; done) | skip
  all_goals simp [execOp, ho, e1, e2, eqGuard_at_float, binOp, Op.floatArith, h]
theorem asIntOf_int (k : IntKind) (i : Int) : asIntOf (.int k i) = pure (k, i) := rfl
/-- A place in a shared slice. -/
theorem Step.idx (hT : TabOk P T) {c : Bool} {o : Oper} {t E E' : TypeId} {te : TE} {x y : Operand} {k : IntKind} {i : Int} {xs : List DV} {z : DV} (ho : o.op = .indexAddr t x y) (hs : slE T t = some (E, te))
    (hx : ev σ x = .dat (.sl E' te.size xs)) (hy : ev σ y = .dat (.v (.int k i))) (hp : 0 < te.size) (h0 : 0 ≤ i) (hz : xs[i.toNat]? = some z) : Step P N c σ o ⟨.sp z, []⟩ := by
  refine Step.value (fun σ' hA B F w0 n a w g rr => ?_) (fun _ _ _ k hk => by simp [AV.refs] at hk)
  have e2 := raw_eval (ev_rep rr y) (by rw [hA.1 y (by simp [ho, Op.operands]), hy]; rfl)
  have hev := ev_rep rr x
  rw [hA.1 x (by simp [ho, Op.operands]), hx] at hev
  simp only [RepS, RepV, RepD] at hev
  obtain ⟨ad, cc, row, e1, hl, hF, hm⟩ := hev
  simp only [List.cons.injEq, and_true] at e1
  obtain ⟨hu, hE, _⟩ := slE_ok hT hs
  have hsz := run_sizeOf hE w
  obtain ⟨c1, c2, c3, m, hmm, e, hl1, hl2, hd, _⟩ := RepF.at hF hz
  have hi : i.toNat < xs.length := (List.getElem?_eq_some_iff.1 hz).1
  have h1 : i < xs.length := by omega
  rw [take_replicate_sum _ _ _ (Nat.le_of_lt hi)] at hl1
  rcases hm with rfl | ⟨b, off, rfl, hS, hc⟩
  · have hms : m = te.size := (List.mem_replicate.1 (List.mem_of_getElem? hmm)).2
    have := congrArg List.length e
    simp at this
    omega
  · refine ⟨.pointer (some ⟨b, off + i.toNat * te.size, none⟩), ?_, ?_⟩
    · simp [execOp, ho, e1, e2, Instr.indexAt, asIntOf_int, run_underlying hu, hsz, h0, h1, addr_add]
    · simp only [RepS, RepA]
      refine ⟨b, off + i.toNat * te.size, c2, rfl, hd, .inr ⟨hS, fun j u hj => ?_⟩⟩
      have := hc (i.toNat * te.size + j) u (by
        rw [e, ← hl1, List.append_assoc, List.getElem?_append_right (by omega), Nat.add_sub_cancel_left, List.getElem?_append_left (List.getElem?_eq_some_iff.1 hj).1]
        exact hj)
      rwa [← Nat.add_assoc] at this
/-- A place in one's own slice. -/
theorem Step.idxown (hT : TabOk P T) {c : Bool} {o : Oper} {t E E' : TypeId} {te : TE} {x y : Operand} {k : IntKind} {i : Int} {id : Nat} {xs : List DV} (ho : o.op = .indexAddr t x y) (hs : slE T t = some (E, te))
    (hx : ev σ x = .oref id) (hob : σ.obj id = some (.row E' te.size xs)) (hy : ev σ y = .dat (.v (.int k i))) (h0 : 0 ≤ i) (h1 : i < xs.length) : Step P N c σ o ⟨.pt id [.idx i.toNat] (i.toNat * te.size), []⟩ := by
  have hmx : x ∈ o.op.operands := by simp [ho, Op.operands]
  have hlk : looks o = true := by simp [looks, ho]
  refine Step.value (fun σ' hA B F w0 n a w g rr => ?_) (fun σ' hA ok k' hk => ?_)
  · have e2 := raw_eval (ev_rep rr y) (by rw [hA.1 y (by simp [ho, Op.operands]), hy]; rfl)
    have hev := ev_rep rr x
    rw [hA.1 x hmx, hx] at hev
    simp only [RepS] at hev
    have hob' : σ'.obj id = some (.row E' te.size xs) := by rw [hA.2.2 hlk x hmx id (by rw [hx]; simp [AV.refs])]; exact hob
    have hO := rr.objs id
    rw [hob'] at hO
    simp only [RepO] at hO
    obtain ⟨hu, hE, _⟩ := slE_ok hT hs
    have hsz := run_sizeOf hE w
    rcases hO with ⟨m1, rfl, m3⟩ | ⟨m1, cc, cur, m2, m3, m4, m5, m6, m7⟩
    · simp at h1; omega
    · refine ⟨.pointer (some ⟨g.blk id, 0 + i.toNat * te.size, none⟩), ?_, by simp [RepS]⟩
      simp [execOp, ho, hev, m2, e2, Instr.indexAt, asIntOf_int, run_underlying hu, hsz, h0, h1, addr_add]
  · simp only [AV.refs] at hk
    subst hk
    rw [hA.2.2 hlk x hmx _ (by rw [hx]; simp [AV.refs]), hob]
    simp
/-- A store into one's own slice. -/
theorem Step.storerow (hT : TabOk P T) {o : Oper} {t : TypeId} {te : TE} {x y : Operand} {id i : Nat} {E : TypeId} {xs : List DV} {v : DV} (ho : o.op = .store t x y) (hd : o.dst = none)
    (ht : tget T t = some te) (hx : ev σ x = .pt id [.idx i] (i * te.size)) (hob : σ.obj id = some (.row E te.size xs)) (hi : i < xs.length)
    (hy : nilT T t (ev σ y) = .dat v) (hy1 : (AV.dat v).lies = true) (hy2 : v.len = te.size) :
    Step P N true σ o ⟨.dead, [(id, .row E te.size (xs.set i v))]⟩ where
  ok := by
    rintro σ' hA B F w0 n a w hdn ⟨g, r⟩ Q _
    have hmx : x ∈ o.op.operands := by simp [ho, Op.operands]
    have hmy : y ∈ o.op.operands := by simp [ho, Op.operands]
    have hlk : looks o = true := by simp [looks, ho]
    have hob' : σ'.obj id = some (.row E te.size xs) := by rw [hA.2.2 hlk x hmx id (by rw [hx]; simp [AV.refs])]; exact hob
    have hevx := ev_rep r x
    rw [hA.1 x hmx, hx] at hevx
    simp only [RepS] at hevx
    have hevy := nilT_rep (T := T) (t := t) (ev_rep r y)
    rw [hA.1 y hmy, hy] at hevy
    obtain ⟨hc1, _, _⟩ := RepS.cells r.hv hevy hy1
    have hO := r.objs id
    rw [hob'] at hO
    simp only [RepO] at hO
    rcases hO with ⟨m1, rfl, m3⟩ | ⟨m1, cc, cur, m2, m3, m4, m5, m6, m7⟩
    · simp at hi
    obtain ⟨d1, d2, d3, m, hmm, e, hl1, hl2, hdd, hput⟩ := RepF.at m7 (List.getElem?_eq_getElem hi)
    have hms : m = te.size := (List.mem_replicate.1 (List.mem_of_getElem? hmm)).2
    rw [take_replicate_sum _ _ _ (Nat.le_of_lt hi)] at hl1
    have hcl : (a.eval y).cells.toList.length = te.size := by rw [RepA.len hc1, ← hy2]; rfl
    have hle : xs.length * te.size ≤ cur.size := by rw [m4]; exact Nat.mul_le_mul_right _ m5
    have htl : (cur.toList.take (xs.length * te.size)).length = xs.length * te.size := by simp [hle]
    have hlen := congrArg List.length e
    simp only [List.length_append, htl] at hlen
    have hfit : i * te.size + (a.eval y).cells.toList.length ≤ cur.size := by omega
    have hrun := run_store_at (hT t te ht) m3 rfl hcl hfit (RepA.one r.hv _ _ hc1)
    have hcur : cur.toList = d1 ++ d2 ++ d3 ++ cur.toList.drop (xs.length * te.size) := by rw [← e, List.take_append_drop]
    have hcells : cur.toList.take (i * te.size) ++ (a.eval y).cells.toList ++ cur.toList.drop (i * te.size + (a.eval y).cells.toList.length) = d1 ++ (a.eval y).cells.toList ++ d3 ++ cur.toList.drop (xs.length * te.size) := by
      have q1 : cur.toList.take (i * te.size) = d1 := by
        rw [hcur, List.append_assoc, List.append_assoc, ← hl1, List.take_left]
      have q2 : cur.toList.drop (i * te.size + (a.eval y).cells.toList.length) = d3 ++ cur.toList.drop (xs.length * te.size) := by
        conv => lhs; rw [hcur]
        rw [List.append_assoc, show i * te.size + (a.eval y).cells.toList.length = (d1 ++ d2).length by simp only [List.length_append]; omega, List.drop_left]
      rw [q1, q2, ← List.append_assoc]
    rw [hcells] at hrun
    unfold Oper.wp
    have hrun' : (execOp a.eval o).run P w = .ok .skip (w.setRow (g.blk id) (d1 ++ (a.eval y).cells.toList ++ d3 ++ cur.toList.drop (xs.length * te.size)).toArray) := by
      simp only [execOp, ho, hevx, Sem.run_bind, hrun, Result.andThen_ok, Sem.run_pure]
    rw [hrun', Oper.upon_skip, hd]
    have hid : σ'.obj id ≠ none := by rw [hob']; simp
    have hS := (r.own id m1).1
    have hother : ∀ (c : List Value) k, g.S k → k < w.heap.size → (w.setRow (g.blk id) c.toArray).heap[k]? = w.heap[k]? := fun c k hk _ => setRow_other w (g.blk id) k _ (fun e => hS (by rw [← e]; exact hk))
    have hnew := hput (w.setRow (g.blk id) (d1 ++ (a.eval y).cells.toList ++ d3 ++ cur.toList.drop (xs.length * te.size)).toArray) g.S v (a.eval y).cells.toList
      (fun z c hr => RepD.frame (fun _ h => h) (hother _) _ _ hr) (by omega) (RepD.frame (fun _ h => h) (hother _) _ _ (by simpa only [RepA] using hc1))
    refine ⟨g, r.rewrite m1 hid _ (.row E te.size (xs.set i v)) ?_ ?_⟩
    · simp only [RepO]
      refine .inr ⟨m1, cc, _, by rw [m2, List.length_set], setRow_heap w _ cur _ E (0, 0) m3, ?_, by rw [List.length_set]; exact m5, m6, ?_⟩
      · have := congrArg List.length hcur
        simp only [List.length_append, Array.length_toList] at this
        simp only [List.size_toArray, List.length_append]
        omega
      · rw [List.length_set]
        have : (d1 ++ (a.eval y).cells.toList ++ d3 ++ cur.toList.drop (xs.length * te.size)).take (xs.length * te.size) = d1 ++ (a.eval y).cells.toList ++ d3 := by
          rw [show xs.length * te.size = (d1 ++ (a.eval y).cells.toList ++ d3).length by simp only [List.length_append]; omega, List.take_left]
        show RepF _ _ _ _ ((d1 ++ (a.eval y).cells.toList ++ d3 ++ cur.toList.drop (xs.length * te.size)).take (xs.length * te.size))
        rw [this]
        exact hnew
    · intro T sz x hx; cases hx
  objs := fun p hp => by
    simp only [List.mem_singleton] at hp
    subst hp
    exact .inr ⟨rfl, by simp [looks, ho], x, by simp [wr, ho], by rw [hx]; simp [AV.refs]⟩
  okk := fun σ' hA ok => by
    have hmx : x ∈ o.op.operands := by simp [ho, Op.operands]
    have hob' : σ'.obj id = some (.row E te.size xs) := by rw [hA.2.2 (by simp [looks, ho]) x hmx id (by rw [hx]; simp [AV.refs])]; exact hob
    rw [hd]
    exact Ok_old ok (by rw [hob']; simp) (fun T2 sz2 x2 e2 k hk => by cases e2)
  near := fun y h => by rw [ho] at h; simp [carry] at h
end
end Go.Sim
/- What is proved: the step rules once more, for states that are written as lists, one operation of a region after the other. -/
namespace Go.Sim
open Go.RowKit
/-- The operation's guard lets it run. -/
def gOn (ops : Array Oper) (L : List (Nat × AV)) (o : Oper) : Bool :=
  match o.guard with
  | none => true
  | some (j, want) => match (ops[j]?).bind (·.dst) with
    | some t => match look L t with | .dat (.v (.bool b)) => b == want | _ => false
    | none => false
/-- The operation's guard keeps it from running. -/
def gOff (ops : Array Oper) (L : List (Nat × AV)) (o : Oper) : Bool :=
  match o.guard with
  | none => false
  | some (j, want) => match (ops[j]?).bind (·.dst) with
    | some t => match look L t with | .dat (.v (.bool b)) => b != want | .dat (.tup []) => true | _ => false
    | none => false
section
variable {P : Program} {N : Value → Prop} {T : Tab} {ops : Array Oper} {cf : Oper → Bool} {K : AExit → St → Prop} {o : Oper} {rest : List Oper} {L : List (Nat × AV)} {O : List (Nat × Obj)}
theorem GStep.of {c : Bool} {e : Eff} (hg : gOn ops L o = true) (h : Step P N c (mkSt L O) o e) : GStep P ops N c (mkSt L O) o e := by
  unfold gOn at hg
  unfold GStep
  split
  · exact h
  · rename_i j want hh
    rw [hh] at hg
    simp only at hg
    split at hg
    · rename_i t ht
      split at hg
      · rename_i b hb
        simp only [beq_iff_eq] at hg
        subst hg
        exact ⟨t, ht, .inl ⟨b, hb, by rw [if_pos rfl]; exact h⟩⟩
      · cases hg
    · cases hg
theorem GStep.offd {c : Bool} (hg : gOff ops L o = true) : GStep P ops N c (mkSt L O) o skipE := by
  unfold gOff at hg
  unfold GStep
  split
  · rename_i hh; rw [hh] at hg; cases hg
  · rename_i j want hh
    rw [hh] at hg
    simp only at hg
    split at hg
    · rename_i t ht
      split at hg
      · rename_i b hb
        simp only [bne_iff_ne, ne_eq] at hg
        exact ⟨t, ht, .inl ⟨b, hb, by rw [if_neg hg]⟩⟩
      · rename_i hb
        exact ⟨t, ht, .inr ⟨hb, rfl⟩⟩
      · cases hg
    · cases hg
theorem AOps.done {σ : St} (h : K .normal σ) : AOps P ops cf K [] σ := h
theorem AOps.eff {e : Eff} (hg : gOn ops L o = true) (h : Step P (panOf K) (cf o) (mkSt L O) o e) (k : AOps P ops cf K rest (e.app o.dst (mkSt L O))) : AOps P ops cf K (o :: rest) (mkSt L O) :=
  ⟨e, GStep.of hg h, k⟩
/-- A value that is worked out. -/
theorem AOps.v {d : Nat} {x : AV} (hd : o.dst = some d) (hg : gOn ops L o = true) (h : Step P (panOf K) (cf o) (mkSt L O) o ⟨x, []⟩) (k : AOps P ops cf K rest (mkSt ((d, x) :: L) O)) : AOps P ops cf K (o :: rest) (mkSt L O) :=
  AOps.eff hg h (by rw [hd]; exact k)
theorem AOps.p (hT : TabOk P T) {d : Nat} {x : AV} (hd : o.dst = some d) (hg : gOn ops L o = true) (h : opV T (mkSt L O) o = some x) (k : AOps P ops cf K rest (mkSt ((d, x) :: L) O)) : AOps P ops cf K (o :: rest) (mkSt L O) :=
  AOps.v hd hg (Step.pure hT h) k
/-- A truth value: each of the two. -/
theorem AOps.b (hT : TabOk P T) {d : Nat} {e : Bool} (hd : o.dst = some d) (hg : gOn ops L o = true) (h : opV T (mkSt L O) o = some (.dat (.v (.bool e)))) (k : ∀ b, e = b → AOps P ops cf K rest (mkSt ((d, .dat (.v (.bool b))) :: L) O)) :
    AOps P ops cf K (o :: rest) (mkSt L O) := AOps.v hd hg (Step.pure hT h) (k e rfl)
/-- A number, by another name. -/
theorem AOps.i (hT : TabOk P T) {d : Nat} {κ : IntKind} {i j : Int} (hd : o.dst = some d) (hg : gOn ops L o = true) (h : opV T (mkSt L O) o = some (.dat (.v (.int κ i)))) (e : i = j) (k : AOps P ops cf K rest (mkSt ((d, .dat (.v (.int κ j))) :: L) O)) :
    AOps P ops cf K (o :: rest) (mkSt L O) := AOps.v hd hg (Step.pure hT (e ▸ h)) k
theorem AOps.off {d : Nat} (hd : o.dst = some d) (hg : gOff ops L o = true) (k : AOps P ops cf K rest (mkSt ((d, .dat (.tup [])) :: L) O)) : AOps P ops cf K (o :: rest) (mkSt L O) :=
  ⟨skipE, GStep.offd hg, by rw [hd]; exact k⟩
/-- An operator whose question is answered: a division, a shift. -/
theorem AOps.q {d : Nat} {op : BinOp} {t t' : TypeId} {x y : Operand} {u v : Value} {κ : IntKind} {i j : Int} (hd : o.dst = some d) (hg : gOn ops L o = true) (ho : o.op = .binOp op t x y t') (hx : ev (mkSt L O) x = .dat (.v u)) (hy : ev (mkSt L O) y = .dat (.v v))
    (h : rbin op u v = some (.int κ i)) (e : i = j) (k : AOps P ops cf K rest (mkSt ((d, .dat (.v (.int κ j))) :: L) O)) : AOps P ops cf K (o :: rest) (mkSt L O) :=
  AOps.v hd hg (Step.bin ho (by rw [hx]; simp [AV.raw]) (by rw [hy]; simp [AV.raw]) (e ▸ h)) k
theorem rbin_quo {k : IntKind} {a b : Int} (h : b ≠ 0) : rbin .quo (.int k a) (.int k b) = some (.int k (k.wrap (a.tdiv b))) := by simp [rbin, h]
theorem rbin_rem {k : IntKind} {a b : Int} (h : b ≠ 0) : rbin .rem (.int k a) (.int k b) = some (.int k (a.tmod b)) := by simp [rbin, h]
theorem rbin_shl {k k' : IntKind} {a b : Int} (h : 0 ≤ b) : rbin .shl (.int k a) (.int k' b) = some (.int k (k.wrap (a * 2 ^ (min b.toNat k.bits)))) := by simp [rbin, Int.not_lt.2 h]
theorem rbin_shr {k k' : IntKind} {a b : Int} (h : 0 ≤ b) : rbin .shr (.int k a) (.int k' b) = some (.int k (a.fdiv (2 ^ (min b.toNat k.bits)))) := by simp [rbin, Int.not_lt.2 h]
theorem AOps.call {d : Nat} {f : FuncId} {args : List Operand} {ats : Array TypeId} {xs : List DV} {y : DV} {fr : Bool} (hc : AFn P f xs y fr) (hd : o.dst = some d) (hg : gOn ops L o = true)
    (ho : o.op = .call { callee := .value (.func f), args := args.toArray, argTypes := ats }) (ha : argsOk (mkSt L O) fr args xs) (k : AOps P ops cf K rest (mkSt ((d, .dat y) :: L) O)) : AOps P ops cf K (o :: rest) (mkSt L O) :=
  AOps.v hd hg (Step.call ho hc ha) k
theorem AOps.alloc (hT : TabOk P T) {d : Nat} {E : TypeId} {te : TE} (ho : o.op = .alloc E) (hd : o.dst = some d) (hg : gOn ops L o = true) (ht : tget T E = some te) (hn : lookO O d = none)
    (k : AOps P ops cf K rest (mkSt ((d, .pt d [] 0) :: L) ((d, .box E te.size (.dat te.zero)) :: O))) : AOps P ops cf K (o :: rest) (mkSt L O) :=
  AOps.eff hg (Step.alloc hT ho hd ht hn) (by rw [hd]; exact k)
theorem AOps.box {d : Nat} {E : TypeId} {x : Operand} {v : AV} (ho : o.op = .box E x) (hd : o.dst = some d) (hg : gOn ops L o = true) (hv : ev (mkSt L O) x = v) (hl : v.lies = true) (hn : lookO O d = none)
    (k : AOps P ops cf K rest (mkSt ((d, .pt d [] 0) :: L) ((d, .box E v.len v) :: O))) : AOps P ops cf K (o :: rest) (mkSt L O) :=
  AOps.eff hg (Step.box ho hd (hv ▸ hl) hn) (by rw [hd]; subst hv; exact k)
theorem AOps.store (hT : TabOk P T) {t : TypeId} {te : TE} {x y : Operand} {id : Nat} {p : List Pa} {off : Nat} {T' : TypeId} {sz : Nat} {c c' z v : AV} (ho : o.op = .store t x y) (hcf : cf o = true) (hd : o.dst = none) (hg : gOn ops L o = true)
    (ht : tget T t = some te) (hx : ev (mkSt L O) x = .pt id p off) (hob : lookO O id = some (.box T' sz c)) (hl : locA c p 0 = some (off, z)) (hz : Nat.beq z.len te.size = true)
    (hv : nilT T t (ev (mkSt L O) y) = v) (hy1 : v.lies = true) (hy2 : Nat.beq v.len te.size = true) (hp : putA c p v = some c')
    (k : AOps P ops cf K rest (mkSt L ((id, .box T' sz c') :: O))) : AOps P ops cf K (o :: rest) (mkSt L O) := by
  subst hv
  refine AOps.eff hg (e := ⟨.dead, [(id, .box T' sz c')]⟩) ?_ (by rw [hd]; exact k)
  rw [hcf]
  exact Step.store hT ho hd ht hx hob hl (Nat.eq_of_beq_eq_true hz) hy1 (Nat.eq_of_beq_eq_true hy2) hp
theorem AOps.nilown (hT : TabOk P T) {d : Nat} {x : Operand} {e : TypeId} {te : TE} (ho : o.op = .assign x) (hd : o.dst = some d) (hg : gOn ops L o = true) (hx : ev (mkSt L O) x = .dat (.v (.slice none 0 0)))
    (hs : slE T o.type = some (e, te)) (hn : lookO O d = none) (k : AOps P ops cf K rest (mkSt ((d, .oref d) :: L) ((d, .row e te.size []) :: O))) (hxc : ∀ t, x ≠ .tmp t := by intro t h; cases h) : AOps P ops cf K (o :: rest) (mkSt L O) :=
  AOps.eff hg (Step.nilown hT (.inl ho) hd hx hs hn hxc) (by rw [hd]; exact k)
theorem AOps.idx (hT : TabOk P T) {d : Nat} {t E E' : TypeId} {te : TE} {x y : Operand} {κ : IntKind} {i : Int} {sz : Nat} {xs : List DV} {z : DV} (ho : o.op = .indexAddr t x y) (hd : o.dst = some d) (hg : gOn ops L o = true) (hs : slE T t = some (E, te))
    (hx : ev (mkSt L O) x = .dat (.sl E' sz xs)) (hsz : Nat.beq sz te.size = true) (hy : ev (mkSt L O) y = .dat (.v (.int κ i))) (hp : Nat.ble 1 te.size = true) (h0 : 0 ≤ i) (hz : xs[i.toNat]? = some z) (k : AOps P ops cf K rest (mkSt ((d, .sp z) :: L) O)) :
    AOps P ops cf K (o :: rest) (mkSt L O) :=
  AOps.v hd hg (Step.idx hT ho hs (by rw [hx, Nat.eq_of_beq_eq_true hsz]) hy (Nat.le_of_ble_eq_true hp) h0 hz) k
theorem AOps.idxown (hT : TabOk P T) {d : Nat} {t E E' : TypeId} {te : TE} {x y : Operand} {κ : IntKind} {i : Int} {id sz : Nat} {xs : List DV} (ho : o.op = .indexAddr t x y) (hd : o.dst = some d) (hg : gOn ops L o = true) (hs : slE T t = some (E, te))
    (hx : ev (mkSt L O) x = .oref id) (hob : lookO O id = some (.row E' sz xs)) (hsz : Nat.beq sz te.size = true) (hy : ev (mkSt L O) y = .dat (.v (.int κ i))) (h0 : 0 ≤ i) (h1 : i < xs.length) {m : Nat} (em : i.toNat = m)
    (k : AOps P ops cf K rest (mkSt ((d, .pt id [.idx m] (m * sz)) :: L) O)) : AOps P ops cf K (o :: rest) (mkSt L O) := by
  have e := Nat.eq_of_beq_eq_true hsz
  subst e em
  exact AOps.v hd hg (Step.idxown hT ho hs hx hob hy h0 h1) k
theorem AOps.storerow (hT : TabOk P T) {t : TypeId} {te : TE} {x y : Operand} {id i sz : Nat} {E : TypeId} {xs zs : List DV} {v : DV} (ho : o.op = .store t x y) (hcf : cf o = true) (hd : o.dst = none) (hg : gOn ops L o = true)
    (ht : tget T t = some te) (hx : ev (mkSt L O) x = .pt id [.idx i] (i * sz)) (hob : lookO O id = some (.row E sz xs)) (hsz : Nat.beq sz te.size = true) (hi : i < xs.length)
    (hy : nilT T t (ev (mkSt L O) y) = .dat v) (hy1 : (AV.dat v).lies = true) (hy2 : Nat.beq v.len te.size = true) (e : xs.set i v = zs) (k : AOps P ops cf K rest (mkSt L ((id, .row E sz zs) :: O))) : AOps P ops cf K (o :: rest) (mkSt L O) := by
  subst e
  have e := Nat.eq_of_beq_eq_true hsz
  subst e
  refine AOps.eff hg (e := ⟨.dead, [(id, .row E te.size (xs.set i v))]⟩) ?_ (by rw [hd]; exact k)
  rw [hcf]
  exact Step.storerow hT ho hd ht hx hob hi hy hy1 (Nat.eq_of_beq_eq_true hy2)
theorem AOps.makeown (hT : TabOk P T) {d : Nat} {t : TypeId} {x y : Operand} {E : TypeId} {te : TE} {κ κ' : IntKind} {m : Int} (ho : o.op = .makeSlice t x y) (hd : o.dst = some d) (hg : gOn ops L o = true) (hn : lookO O d = none)
    (hs : slE T t = some (E, te)) (hx : ev (mkSt L O) x = .dat (.v (.int κ m))) (hy : ev (mkSt L O) y = .dat (.v (.int κ' m))) (h0 : 0 ≤ m) (hb : (te.bytes : Int) * m ≤ 281474976710656) (h63 : m ≤ 9223372036854775807) {zs : List DV} (e : List.replicate m.toNat te.zero = zs)
    (k : AOps P ops cf K rest (mkSt ((d, .oref d) :: L) ((d, .row E te.size zs) :: O))) : AOps P ops cf K (o :: rest) (mkSt L O) :=
  AOps.eff hg (Step.makeown hT ho hd hn hs hx hy h0 hb h63) (by rw [hd]; subst e; exact k)
theorem AOps.append (hT : TabOk P T) {d id : Nat} {t E E' : TypeId} {te : TE} {x y : Operand} {sz : Nat} {xs ys : List DV}
    (ho : o.op = .call { callee := .builtin .append, args := #[x, y], argTypes := #[t, t] }) (hcf : cf o = true) (hd : o.dst = some d) (hg : gOn ops L o = true) (hn : lookO O d = none) (hs : slE T t = some (E, te)) (hp : Nat.ble 1 te.size = true)
    (hx : ev (mkSt L O) x = .oref id) (hob : lookO O id = some (.row E' sz xs)) (hE : Nat.beq E' E = true) (hsz : Nat.beq sz te.size = true) (hy : srcOk (mkSt L O) y sz ys) (h63 : xs.length + ys.length ≤ maxLen) (hby : (xs.length + ys.length) * te.bytes ≤ 140737488355328) {zs : List DV} (ez : xs ++ ys = zs)
    (k : AOps P ops cf K rest (mkSt ((d, .oref d) :: L) ((d, .row E sz zs) :: (id, .gone) :: O))) (hlid : id < 1000000 := by decide) : AOps P ops cf K (o :: rest) (mkSt L O) := by
  subst ez
  have e := Nat.eq_of_beq_eq_true hsz
  have e' := Nat.eq_of_beq_eq_true hE
  subst e e'
  refine AOps.eff hg (e := ⟨.oref d, [(id, .gone), (d, .row E' te.size (xs ++ ys))]⟩) ?_ (by rw [hd]; exact k)
  rw [hcf]
  exact Step.append hT ho hd hn hs (Nat.le_of_ble_eq_true hp) hx hob hy h63 hby hlid
/-- A literal, one's own. -/
theorem AOps.litown (hT : TabOk P T) {d : Nat} {t : TypeId} {m : Nat} {ps : Array (Nat × Operand)} {E : TypeId} {te : TE} {ys : List DV} (ho : o.op = .buildSlice t m ps) (hd : o.dst = some d) (hg : gOn ops L o = true) (hn : lookO O d = none)
    (hs : slE T t = some (E, te)) (hm : Nat.ble (m * te.size) 16777216 = true) (hm2 : Nat.ble m maxLen = true) (hb : buildS T E te.size (mkSt L O) ps.toList (List.replicate m te.zero) = some ys)
    (k : AOps P ops cf K rest (mkSt ((d, .oref d) :: L) ((d, .row E te.size ys) :: O))) : AOps P ops cf K (o :: rest) (mkSt L O) :=
  AOps.eff hg (Step.litown hT ho hd hn hs (Nat.le_of_ble_eq_true hm) (Nat.le_of_ble_eq_true hm2) hb) (by rw [hd]; exact k)
theorem AOps.lit (hT : TabOk P T) {d : Nat} {t : TypeId} {m : Nat} {ps : Array (Nat × Operand)} {E : TypeId} {te : TE} {ys : List DV} (ho : o.op = .buildSlice t m ps) (hd : o.dst = some d) (hg : gOn ops L o = true)
    (hs : slE T t = some (E, te)) (hm : Nat.ble (m * te.size) 16777216 = true) (hb : buildS T E te.size (mkSt L O) ps.toList (List.replicate m te.zero) = some ys)
    (k : AOps P ops cf K rest (mkSt ((d, .dat (.sl E te.size ys)) :: L) O)) : AOps P ops cf K (o :: rest) (mkSt L O) :=
  AOps.eff hg (Step.lit hT ho hs (Nat.le_of_ble_eq_true hm) hb) (by rw [hd]; exact k)
/-- The contract of a function out of what is shown of its code. -/
theorem AFn.intro' {f : FuncId} {fn : Func} {c : Code} {xs : List DV} {y : DV} {n : Nat} {rs : List ResultVar} {L : List (Nat × AV)} (hT : TabOk P T) (hf : P.funcs[f]? = some fn) (hb : fn.body = some c) (hname : (fn.name == "runtime.NumGoroutine") = false)
    (hn : fn.ntmps = n) (hr : fn.results.toList = rs) (hl : Nat.ble xs.length n = true) (hL : argL 0 xs = L) (hw : AWp P NoB n c (mkSt L []) (outQ T rs y)) (hnl : n ≤ 1000000 := by decide) : AFn P f xs y false := by
  subst hn hr hL
  exact AFn.intro hT hf hb hname (Nat.le_of_ble_eq_true hl) hnl hw
/-- What is known less, by a list. -/
theorem AWp.list {B : Nat → Nat → Prop} {n : Nat} {c : Code} {σ : St} {Q : AExit → St → Prop} (L : List (Nat × AV)) (O : List (Nat × Obj)) (hd : distinct (fun i => i) (O.map (·.1)) = true) (hc : closedB (O.map (·.1)) L O = true)
    (hL : slotsOk (fun i => i) σ L) (hO : objsOk (fun i => i) σ O) (h : AWp P B n c (mkSt L O) Q) : AWp P B n c σ Q := AWp.sub (Sub.list (fun i => i) hd hc hL hO) h
end
end Go.Sim
/- What is proved: cuts of shared slices, equality of structs and arrays, and one's own slices handed over to be shared. -/
namespace Go.Sim
open Go.RowKit
section
variable {P : Program} {N : Value → Prop} {T : Tab} {σ : St}
theorem RepF.splitR {w : World} {S : Nat → Prop} {xs ys : List DV} {m sz : Nat} {cs : List Value} (h : RepF w S (xs ++ ys) (List.replicate m sz) cs) :
    ∃ c1 c2, cs = c1 ++ c2 ∧ RepF w S xs (List.replicate xs.length sz) c1 ∧ RepF w S ys (List.replicate ys.length sz) c2 ∧ c1.length = xs.length * sz ∧ c2.length = ys.length * sz := by
  obtain ⟨n1, n2, c1, c2, hn, hc, hl, h1, h2⟩ := RepF.split h
  have e1 : n1 = List.replicate xs.length sz := by
    refine List.eq_replicate_iff.2 ⟨hl, fun b hb => ?_⟩
    have : b ∈ List.replicate m sz := by rw [hn]; simp [hb]
    exact (List.mem_replicate.1 this).2
  have e2 : n2 = List.replicate ys.length sz := by
    refine List.eq_replicate_iff.2 ⟨?_, fun b hb => ?_⟩
    · exact (RepF.length h2).2.symm
    · have : b ∈ List.replicate m sz := by rw [hn]; simp [hb]
      exact (List.mem_replicate.1 this).2
  rw [e1] at h1
  rw [e2] at h2
  refine ⟨c1, c2, hc, h1, h2, ?_, ?_⟩
  · rw [(RepF.length h1).1]; simp
  · rw [(RepF.length h2).1]; simp
/-- What bounds a cut names: from 'l' to 'h'. -/
def loOk (σ : St) : Option Operand → Nat → Prop
  | none, l => l = 0
  | some x, l => ∃ k, ev σ x = .dat (.v (.int k l))
def hiOk (σ : St) (n : Nat) : Option Operand → Nat → Prop
  | none, h => h = n
  | some x, h => ∃ k, ev σ x = .dat (.v (.int k h))
theorem sl_cut {w : World} {S : Nat → Prop} {ad : Option Addr} {cc : Nat} {row : List Value} {E : TypeId} {sz : Nat} {xs : List DV} {l h : Nat} (hl : xs.length ≤ cc) (hF : RepF w S xs (List.replicate xs.length sz) row)
    (hm : row = [] ∨ ∃ b o, ad = some ⟨b, o, none⟩ ∧ S b ∧ ∀ j u, row[j]? = some u → w.cell? ⟨b, o + j, none⟩ = some u) (h1 : l ≤ h) (h2 : h ≤ xs.length) :
    RepD w S (.sl E sz ((xs.drop l).take (h - l))) [sliced ad l h cc sz] := by
  have hx : xs = xs.take l ++ ((xs.drop l).take (h - l) ++ (xs.drop l).drop (h - l)) := by rw [List.take_append_drop, List.take_append_drop]
  have hF' := hF
  rw [hx] at hF'
  obtain ⟨c1, c2, e1, k1, k2, k3, k4⟩ := RepF.splitR hF'
  obtain ⟨d1, d2, e2, m1, m2, m3, m4⟩ := RepF.splitR k2
  have len : ((xs.drop l).take (h - l)).length = h - l := by simp; omega
  have len0 : (xs.take l).length = l := by simp; omega
  simp only [RepD, sliced]
  refine ⟨_, _, d1, by rw [len], by rw [len]; omega, m1, ?_⟩
  rcases hm with rfl | ⟨b, o, rfl, hS, hc⟩
  · refine .inl ?_
    have := congrArg List.length e1
    rw [e2] at this
    simp at this
    exact List.eq_nil_of_length_eq_zero (by omega)
  · by_cases hlh : l = h
    · refine .inl (List.eq_nil_of_length_eq_zero ?_)
      rw [m3, len, hlh]; simp
    · refine .inr ⟨b, o + l * sz, ?_, hS, fun j u hj => ?_⟩
      · rw [if_neg (by omega)]; simp [addr_add]
      · have := hc (l * sz + j) u (by
          rw [e1, e2, List.getElem?_append_right (by rw [k3, len0]; omega), k3, len0, Nat.add_sub_cancel_left, List.getElem?_append_left (List.getElem?_eq_some_iff.1 hj).1]
          exact hj)
        rwa [← Nat.add_assoc] at this
/-- A cut of a shared slice. -/
theorem Step.cut (hT : TabOk P T) {c : Bool} {o : Oper} {t E E' : TypeId} {te : TE} {x : Operand} {lo hi : Option Operand} {l h : Nat} {xs : List DV} (ho : o.op = .slice t x lo hi none) (hs : slE T t = some (E, te))
    (hx : ev σ x = .dat (.sl E' te.size xs)) (hlo : loOk σ lo l) (hhi : hiOk σ xs.length hi h) (h1 : l ≤ h) (h2 : h ≤ xs.length) : Step P N c σ o ⟨.dat (.sl E' te.size ((xs.drop l).take (h - l))), []⟩ := by
  refine Step.value (fun σ' hA B F w0 n a w g rr => ?_) (fun _ _ _ k hk => by simp [AV.refs] at hk)
  have hev := ev_rep rr x
  rw [hA.1 x (by simp [ho, Op.operands]), hx] at hev
  simp only [RepS, RepV, RepD] at hev
  obtain ⟨ad, cc, row, e1, hl, hF, hm⟩ := hev
  simp only [List.cons.injEq, and_true] at e1
  obtain ⟨hu, hE, _⟩ := slE_ok hT hs
  have hsz := run_sizeOf hE w
  have hel : P.elem t = E := by simp [Program.elem, hu]
  have hu' : P.underlying t = some (.slice (P.elem t)) := by rw [hel]; exact hu
  refine ⟨sliced ad l h cc te.size, ?_, by simp only [RepS, RepV]; exact sl_cut hl hF hm h1 h2⟩
  have evl : ∀ y m, lo = some y → (∃ k, ev σ y = .dat (.v (.int k m))) → ∃ k, a.eval y = .int k m := fun y m hy ⟨k, hk⟩ => ⟨k, raw_eval (ev_rep rr y) (by rw [hA.1 y (by simp [ho, hy, Op.operands]), hk]; rfl)⟩
  have evh : ∀ y m, hi = some y → (∃ k, ev σ y = .dat (.v (.int k m))) → ∃ k, a.eval y = .int k m := fun y m hy ⟨k, hk⟩ => ⟨k, raw_eval (ev_rep rr y) (by rw [hA.1 y (by simp [ho, hy, Op.operands]), hk]; rfl)⟩
  have hsl := run_sliceAt_slice (P := P) w t (.slice ad xs.length cc) (lo.map a.eval) (hi.map a.eval) none hu'
  have key : (Instr.slice t (.slice ad xs.length cc) (lo.map a.eval) (hi.map a.eval) none).run P w = .ok (sliced ad l h cc te.size) w := by
    cases lo with
    | none =>
      simp only [loOk] at hlo
      subst hlo
      cases hi with
      | none =>
        simp only [hiOk] at hhi
        subst hhi
        simp only [Option.map_none]; rw [run_slice_all w t ad _ cc hu', hel, hsz]; rfl
      | some y =>
        obtain ⟨k, hk⟩ := evh y h rfl hhi
        simp only [Option.map_none, Option.map_some]; rw [hk, run_slice_h w t ad _ cc hu' k _ (by omega) (by omega), hel, hsz]; rfl
    | some z =>
      obtain ⟨k, hk⟩ := evl z l rfl hlo
      cases hi with
      | none =>
        simp only [hiOk] at hhi
        subst hhi
        simp only [Option.map_none, Option.map_some]; rw [hk, run_slice_l w t ad _ cc hu' k _ (by omega) (by omega), hel, hsz]; rfl
      | some y =>
        obtain ⟨k', hk'⟩ := evh y h rfl hhi
        simp only [Option.map_some]; rw [hk, hk', run_slice_lh w t ad _ cc hu' k k' _ _ (by omega) (by omega) (by omega), hel, hsz]; rfl
  rw [← hsl] at key
  simp only [execOp, ho, e1, Option.map_none, Sem.run_bind, key, Result.andThen_ok, Sem.run_pure]
/-! ### Equality -/
def EqOk (P : Program) (d : Nat) (t : TypeId) (x y : DV) (b : Bool) : Prop :=
  ∀ (w : World) (S : Nat → Prop) (u v : Value), RepV w S x u → RepV w S y v → (Op.equalIn d t u v).run P w = .ok b w
theorem EqOk.int {d : Nat} {t : TypeId} {te : TE} {k k' : IntKind} {a b : Int} (h : EntryOk P t te) (hd : te.d = .int k) : EqOk P (d + 1) t (.v (.int k' a)) (.v (.int k' b)) (a == b) := by
  intro w S u v hu hv
  obtain ⟨i, ds, z, q1, q2, q3, _⟩ := h
  rw [hd] at q3
  cases ds <;> simp only [TyD.ok] at q3
  simp only [RepV, RepD, List.cons.injEq, and_true] at hu hv
  rw [hu.1, hv.1]
  exact run_equalIn_int w d t k' _ a b q2
theorem EqOk.bool {d : Nat} {t : TypeId} {te : TE} {a b : Bool} (h : EntryOk P t te) (hd : te.d = .bool) : EqOk P (d + 1) t (.v (.bool a)) (.v (.bool b)) (a == b) := by
  intro w S u v hu hv
  obtain ⟨i, ds, z, q1, q2, q3, _⟩ := h
  rw [hd] at q3
  cases ds <;> simp only [TyD.ok] at q3
  simp only [RepV, RepD, List.cons.injEq, and_true] at hu hv
  rw [hu.1, hv.1]
  exact run_equalIn_bool w d t a b q2
theorem EqOk.str {d : Nat} {t : TypeId} {te : TE} {a b : ByteArray} (h : EntryOk P t te) (hd : te.d = .str) : EqOk P (d + 1) t (.v (.string a)) (.v (.string b)) (a.toList == b.toList) := by
  intro w S u v hu hv
  obtain ⟨i, ds, z, q1, q2, q3, _⟩ := h
  rw [hd] at q3
  cases ds <;> simp only [TyD.ok] at q3
  simp only [RepV, RepD, List.cons.injEq, and_true] at hu hv
  rw [hu.1, hv.1]
  exact run_equalIn_string w d t a b q2
def EqF (P : Program) (T : Tab) (d : Nat) : List Field → Nat → List Nat → List DV → List DV → Bool → Prop
  | [], _, [], [], [], b => b = true
  | f :: gs, off, n :: ns, x :: xs, y :: ys, b => f.name ≠ "_" ∧ f.offset = off ∧ (∃ te, tget T f.type = some te ∧ aggMatch te (.dat x) = true ∧ aggMatch te (.dat y) = true) ∧
      ∃ b1 b2, EqOk P d f.type x y b1 ∧ EqF P T d gs (off + n) ns xs ys b2 ∧ b = (b1 && b2)
  | _, _, _, _, _, _ => False
theorem eqF_run (hT : TabOk P T) {d : Nat} {w : World} {S : Nat → Prop} : ∀ (gs : List Field) (off : Nat) (ns : List Nat) (xs ys : List DV) (b : Bool) (p q c e : List Value), EqF P T d gs off ns xs ys b → p.length = off → q.length = off →
    RepF w S xs ns c → RepF w S ys ns e → (Op.eqFields d (p ++ c).toArray (q ++ e).toArray gs).run P w = .ok b w
  | [], _, [], [], [], b, p, q, c, e, h, _, _, _, _ => by simp only [EqF] at h; subst h; simp [Op.eqFields]
  | f :: gs, off, n :: ns, x :: xs, y :: ys, b, p, q, c, e, h, hp, hq, hx, hy => by
    simp only [EqF] at h
    obtain ⟨h1, h2, ⟨te, h3, h4, h5⟩, b1, b2, h6, h7, rfl⟩ := h
    simp only [RepF] at hx hy
    obtain ⟨n', ns', c1, c2, e1, rfl, hl1, hx1, hx2⟩ := hx
    obtain ⟨n'', ns'', d1, d2, e2, rfl, hl2, hy1, hy2⟩ := hy
    cases e1
    cases e2
    let g : Gh := { S := S, blk := fun _ => 0, hdr := fun _ => .bool true, has := fun _ => False, sub := fun _ _ _ => False }
    obtain ⟨r1, hr1, rep1⟩ := run_part (w := w) (g := g) (hT _ _ h3) (y := .dat x) (c1 := p) (c2 := c1) (c3 := c2) hx1 h4
    obtain ⟨r2, hr2, rep2⟩ := run_part (w := w) (g := g) (hT _ _ h3) (y := .dat y) (c1 := q) (c2 := d1) (c3 := d2) hy1 h5
    rw [hp, ← h2, List.append_assoc] at hr1
    rw [hq, ← h2, List.append_assoc] at hr2
    have ih := eqF_run hT gs (off + n) ns xs ys b2 (p ++ c1) (q ++ d1) c2 d2 h7 (by simp [hp, hl1]) (by simp [hq, hl2]) hx2 hy2
    rw [List.append_assoc, List.append_assoc] at ih
    simp only [Op.eqFields, if_pos h1, Sem.run_bind, hr1, hr2, Result.andThen_ok, h6 w S r1 r2 rep1 rep2]
    cases b1
    · simp
    · simp [ih]
  | [], _, _ :: _, _, _, _, _, _, _, _, h, _, _, _, _ => by simp [EqF] at h
  | [], _, [], _ :: _, _, _, _, _, _, _, h, _, _, _, _ => by simp [EqF] at h
  | [], _, [], [], _ :: _, _, _, _, _, _, h, _, _, _, _ => by simp [EqF] at h
  | _ :: _, _, [], _, _, _, _, _, _, _, h, _, _, _, _ => by simp [EqF] at h
  | _ :: _, _, _ :: _, [], _, _, _, _, _, _, h, _, _, _, _ => by simp [EqF] at h
  | _ :: _, _, _ :: _, _ :: _, [], _, _, _, _, _, h, _, _, _, _ => by simp [EqF] at h
theorem EqOk.struct (hT : TabOk P T) {d : Nat} {t : TypeId} {ns : List Nat} {xs ys : List DV} {b : Bool} (hu : P.underlying t = some (.struct (P.fieldsOf t))) (hs : P.stoodInHeld t = false) (h : EqF P T d (P.fieldsOf t).toList 0 ns xs ys b) :
    EqOk P (d + 1) t (.st ns xs) (.st ns ys) b := by
  intro w S u v hu' hv'
  obtain ⟨cs, rfl, hx⟩ := hu'
  obtain ⟨ds, rfl, hy⟩ := hv'
  simp only [RepD] at hx hy
  rw [run_equalIn_struct w d t _ _ hu hs]
  exact eqF_run hT _ 0 ns xs ys b [] [] cs ds h rfl rfl hx hy
/-- Structs and arrays that are compared. -/
theorem Step.eqst {c : Bool} {o : Oper} {op : BinOp} {t t' : TypeId} {x y : Operand} {u v : DV} {b : Bool} (hop : op = .eql ∨ op = .neq) (ho : o.op = .binOp op t x y t') (hx : ev σ x = .dat u) (hy : ev σ y = .dat v) (hu : u.agg = true) (hv : v.agg = true)
    (hg : P.eqGuardType P.depth t = false) (h : EqOk P 10000 t u v b) : Step P N c σ o ⟨.dat (.v (.bool (if op = .neq then !b else b))), []⟩ := by
  refine Step.value (fun σ' hA B F w0 n a w g rr => ?_) (fun _ _ _ k hk => by simp [AV.refs] at hk)
  have hevx := ev_rep rr x
  rw [hA.1 x (by simp [ho, Op.operands]), hx] at hevx
  have hevy := ev_rep rr y
  rw [hA.1 y (by simp [ho, Op.operands]), hy] at hevy
  simp only [RepS] at hevx hevy
  have hr := h w g.S _ _ hevx hevy
  have ag : ∀ z u', z.agg = true → RepV w g.S z u' → ∃ cs : List Value, u' = .agg cs.toArray := fun z u' hz hr => by
    cases z <;> simp [DV.agg] at hz
    · obtain ⟨cs, e, _⟩ := hr; exact ⟨cs, e⟩
    · obtain ⟨cs, e, _⟩ := hr; exact ⟨cs, e⟩
  obtain ⟨cs, e1⟩ := ag u _ hu hevx
  obtain ⟨ds, e2⟩ := ag v _ hv hevy
  rw [e1, e2] at hr
  refine ⟨.bool (if op = .neq then !b else b), ?_, rep_raw rfl⟩
  rcases hop with rfl | rfl
  · simp only [execOp, ho, e1, e2, Sem.run_bind, run_eqGuard_agg w _ _ _ _ _ _ hg, Result.andThen_ok, run_eql_struct, hr, Sem.run_pure]
    simp
  · simp only [execOp, ho, e1, e2, Sem.run_bind, run_eqGuard_agg w _ _ _ _ _ _ hg, Result.andThen_ok, run_neq_struct, hr, Sem.run_pure]
    simp
end
end Go.Sim
/- What is proved: the step rules of the last text for states that are written as lists; one's own slices shared; a cut between two parts of a code. -/
namespace Go.Sim
open Go.RowKit
section
variable {P : Program} {N : Value → Prop} {T : Tab} {ops : Array Oper} {cf : Oper → Bool} {K : AExit → St → Prop} {o : Oper} {rest : List Oper} {L : List (Nat × AV)} {O : List (Nat × Obj)}
theorem AOps.cut (hT : TabOk P T) {d : Nat} {t E E' : TypeId} {te : TE} {x : Operand} {lo hi : Option Operand} {l h sz : Nat} {xs : List DV} (ho : o.op = .slice t x lo hi none) (hd : o.dst = some d) (hg : gOn ops L o = true) (hs : slE T t = some (E, te))
    (hx : ev (mkSt L O) x = .dat (.sl E' sz xs)) (hsz : Nat.beq sz te.size = true) (hlo : loOk (mkSt L O) lo l) (hhi : hiOk (mkSt L O) xs.length hi h) (h1 : l ≤ h) (h2 : h ≤ xs.length) {zs : List DV} (ez : (xs.drop l).take (h - l) = zs)
    (k : AOps P ops cf K rest (mkSt ((d, .dat (.sl E' sz zs)) :: L) O)) : AOps P ops cf K (o :: rest) (mkSt L O) := by
  have e := Nat.eq_of_beq_eq_true hsz
  subst e ez
  exact AOps.v hd hg (Step.cut hT ho hs hx hlo hhi h1 h2) k
theorem AOps.eqst {d : Nat} {op : BinOp} {t t' : TypeId} {x y : Operand} {u v : DV} {b : Bool} (hop : op = .eql ∨ op = .neq) (ho : o.op = .binOp op t x y t') (hd : o.dst = some d) (hg : gOn ops L o = true) (hx : ev (mkSt L O) x = .dat u) (hy : ev (mkSt L O) y = .dat v)
    (hu : u.agg = true) (hv : v.agg = true) (hgu : P.eqGuardType P.depth t = false) (h : EqOk P 10000 t u v b) (k : ∀ c, (if op = .neq then !b else b) = c → AOps P ops cf K rest (mkSt ((d, .dat (.v (.bool c))) :: L) O)) : AOps P ops cf K (o :: rest) (mkSt L O) :=
  AOps.v hd hg (Step.eqst hop ho hx hy hu hv hgu h) (k _ rfl)
/-- What is read at a place of one's own slice. -/
theorem AOps.loadrow (hT : TabOk P T) {d : Nat} {t : TypeId} {te : TE} {x : Operand} {id m off sz : Nat} {E : TypeId} {xs : List DV} {z : DV} (ho : o.op = .load t x) (hd : o.dst = some d) (hg : gOn ops L o = true) (ht : tget T t = some te) (hx : ev (mkSt L O) x = .pt id [.idx m] off)
    (hob : lookO O id = some (.row E sz xs)) (hoff : off = m * sz) (hz : xs[m]? = some z) (hm : aggMatch te (.dat z) = true) (k : AOps P ops cf K rest (mkSt ((d, .dat z) :: L) O)) : AOps P ops cf K (o :: rest) (mkSt L O) := by
  refine AOps.p hT hd hg ?_ k
  have hob' : (mkSt L O).obj id = some (.row E sz xs) := hob
  simp [opV, ho, opLoad, ht, hx, hob', contentOf, locA, locD, hz, hoff, hm]
theorem AWp.freeze {B : Nat → Nat → Prop} {n : Nat} {c : Code} {Q : AExit → St → Prop} (i id : Nat) {E : TypeId} {sz : Nat} {xs : List DV} (hi : look L i = .oref id) (ho : lookO O id = some (.row E sz xs))
    (h : AWp P B n c (mkSt ((i, .dat (.sl E sz xs)) :: L) ((id, .gone) :: O)) Q) (hid : id < 1000000 := by decide) : AWp P B n c (mkSt L O) Q := by
  rintro F w0 a w ⟨g, r⟩
  obtain ⟨r', hrep⟩ := r.freeze hid ho
  refine h F w0 a w ⟨_, { os := r'.os, tape := r'.tape, output := r'.output, size := r'.size, old := r'.old, n := r'.n, nlt := r'.nlt, glob := r'.glob, defers := r'.defers, sF := r'.sF, sB := r'.sB, own := r'.own, dj := r'.dj, slots := fun j => ?_, objs := r'.objs, ok := ⟨fun j k hk => ?_, r'.ok.2⟩, hv := r'.hv, sub := r'.sub }⟩
  · have hs := r'.slots j
    simp only [mkSt, look] at hs ⊢
    split
    · rename_i hj
      have := Nat.eq_of_beq_eq_true hj
      subst this
      have hs' : RepS w _ (look L j) (a.tmps.getD j undef) := hs
      rw [hi] at hs'
      simp only [RepS] at hs' ⊢
      simp only [RepV]
      rw [hs']
      exact hrep
    · exact hs
  · simp only [mkSt, look] at hk
    split at hk
    · simp [AV.refs] at hk
    · exact r'.ok.1 j k hk
end
/-- Does the operation write what was there? -/
def writes (o : Oper) : Bool :=
  match o.op with
  | .store .. | .insert .. | .mapUpdate .. => true
  | .call c => match c.callee with | .builtin .append => true | .builtin .copy => true | _ => false
  | _ => false
end Go.Sim
/- What is proved: the step rule for a call of a function that the model stands in for. -/
namespace Go.Sim
open Go.RowKit
section
variable {P : Program} {N : Value → Prop} {T : Tab} {σ : St}
theorem Step.ext {c : Bool} {o : Oper} {f : FuncId} {args : List Operand} {ats : Array TypeId} {vals : List Value} {y : DV} {v : Value}
    (ho : o.op = .call { callee := .value (.func f), args := args.toArray, argTypes := ats }) (hv : All2 (fun x u => (ev σ x).raw = some u) args vals)
    (hrun : ∀ w, (callFunc f vals.toArray).run P w = .ok (.value v) w) (hy : ∀ (w : World) (S : Nat → Prop), RepV w S y v) : Step P N c σ o ⟨.dat y, []⟩ := by
  refine Step.value (fun σ' hA B F w0 n a w g rr => ?_) (fun _ _ _ k hk => by simp [AV.refs] at hk)
  have key : ∀ (args : List Operand) (vals : List Value), (∀ x ∈ args, ev σ' x = ev σ x) → All2 (fun x u => (ev σ x).raw = some u) args vals → args.map a.eval = vals := by
    intro args vals hx h
    induction h with
    | nil => rfl
    | cons h1 _ ih =>
      rw [List.map_cons, ih (fun x hx' => hx x (by simp [hx'])), raw_eval (ev_rep rr _) (by rw [hx _ (by simp)]; exact h1)]
  have e := key args vals (fun x hx => hA.1 x (by rw [ho]; simp [Op.operands, Call.operands, hx])) hv
  refine ⟨v, ?_, hy w g.S⟩
  simp only [execOp, ho, resolve, Act.eval, Deferred.ofValue, Sem.run_bind, Sem.run_pure, Result.andThen_ok, invoke]
  rw [show (args.toArray.map a.eval) = vals.toArray by simp [← e]]
  simpa using hrun w
/-- A byte of a string. -/
theorem Step.sidx (hT : TabOk P T) {c : Bool} {o : Oper} {t : TypeId} {te : TE} {x y : Operand} {s : ByteArray} {k : IntKind} {i : Int} {b : UInt8} (ho : o.op = .index t x y) (ht : tget T t = some te) (hd : te.d = .str)
    (hx : ev σ x = .dat (.v (.string s))) (hy : ev σ y = .dat (.v (.int k i))) (h0 : 0 ≤ i) (hb : s[i.toNat]? = some b) : Step P N c σ o ⟨.dat (.v (.int .u8 b.toNat)), []⟩ := by
  refine Step.value (fun σ' hA B F w0 n a w g rr => ?_) (fun _ _ _ k hk => by simp [AV.refs] at hk)
  have e1 := raw_eval (ev_rep rr x) (by rw [hA.1 x (by simp [ho, Op.operands]), hx]; rfl)
  have e2 := raw_eval (ev_rep rr y) (by rw [hA.1 y (by simp [ho, Op.operands]), hy]; rfl)
  obtain ⟨_, d0, _, _, q2, q3, _⟩ := hT t te ht
  rw [hd] at q3
  cases d0 <;> simp only [TyD.ok] at q3
  refine ⟨.int .u8 b.toNat, ?_, rep_raw rfl⟩
  simp [execOp, ho, e1, e2, Instr.index, asIntOf_int, run_underlying q2, h0, hb]
end
section
variable {P : Program} {N : Value → Prop} {T : Tab} {ops : Array Oper} {cf : Oper → Bool} {K : AExit → St → Prop} {o : Oper} {rest : List Oper} {L : List (Nat × AV)} {O : List (Nat × Obj)}
theorem AOps.ext {d : Nat} {f : FuncId} {args : List Operand} {ats : Array TypeId} {vals : List Value} {y : DV} {v : Value} (hrun : ∀ w, (callFunc f vals.toArray).run P w = .ok (.value v) w) (hy : ∀ (w : World) (S : Nat → Prop), RepV w S y v)
    (hd : o.dst = some d) (hg : gOn ops L o = true) (ho : o.op = .call { callee := .value (.func f), args := args.toArray, argTypes := ats }) (hv : All2 (fun x u => (ev (mkSt L O) x).raw = some u) args vals)
    (k : AOps P ops cf K rest (mkSt ((d, .dat y) :: L) O)) : AOps P ops cf K (o :: rest) (mkSt L O) :=
  AOps.v hd hg (Step.ext ho hv hrun hy) k
theorem AOps.sidx (hT : TabOk P T) {d : Nat} {t : TypeId} {te : TE} {x y : Operand} {s : ByteArray} {κ : IntKind} {i j : Int} {b : UInt8} (ho : o.op = .index t x y) (hd : o.dst = some d) (hg : gOn ops L o = true) (ht : tget T t = some te) (hs : te.d = .str)
    (hx : ev (mkSt L O) x = .dat (.v (.string s))) (hy : ev (mkSt L O) y = .dat (.v (.int κ i))) (h0 : 0 ≤ i) (hb : s[i.toNat]? = some b) (hj : (b.toNat : Int) = j) (k : AOps P ops cf K rest (mkSt ((d, .dat (.v (.int .u8 j))) :: L) O)) : AOps P ops cf K (o :: rest) (mkSt L O) := by
  subst hj
  exact AOps.v hd hg (Step.sidx hT ho ht hs hx hy h0 hb) k
theorem AOps.sidxE (hT : TabOk P T) {d : Nat} {t : TypeId} {te : TE} {x y : Operand} {s : ByteArray} {κ : IntKind} {i j : Int} (ho : o.op = .index t x y) (hd : o.dst = some d) (hg : gOn ops L o = true) (ht : tget T t = some te) (hs : te.d = .str)
    (hx : ev (mkSt L O) x = .dat (.v (.string s))) (hy : ev (mkSt L O) y = .dat (.v (.int κ i))) (h0 : 0 ≤ i) (hb : ∃ b, s[i.toNat]? = some b ∧ (b.toNat : Int) = j) (k : AOps P ops cf K rest (mkSt ((d, .dat (.v (.int .u8 j))) :: L) O)) : AOps P ops cf K (o :: rest) (mkSt L O) :=
  let ⟨_, h1, h2⟩ := hb
  AOps.sidx hT ho hd hg ht hs hx hy h0 h1 h2 k
end
end Go.Sim
