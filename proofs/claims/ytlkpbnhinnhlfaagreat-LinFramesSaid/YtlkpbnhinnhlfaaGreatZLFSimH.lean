/- What is proved: operations on own slices of own slices, one after the other. -/
import Derived.Test.YtlkpbnhinnhlfaaGreatZLFSimG

namespace Go.Sim
open Go.RowKit
section
variable {P : Program} {N : Value → Prop} {T : Tab} {σ : St}
/-- A slice of empty slices that is made, one's own. -/
theorem Step.makerr (hT : TabOk P T) {c : Bool} {o : Oper} {d : Nat} {t : TypeId} {x y : Operand} {E1 E : TypeId} {sz : Nat} {te : TE} {k k' : IntKind} {m : Int} (ho : o.op = .makeSlice t x y) (hd : o.dst = some d) (hn : σ.obj d = none)
    (hs : slE T t = some (E1, te)) (hz : te.zero = .sl E sz []) (hx : ev σ x = .dat (.v (.int k m))) (hy : ev σ y = .dat (.v (.int k' m))) (h0 : 0 ≤ m) (hb : (te.bytes : Int) * m ≤ 281474976710656) (h63 : m ≤ 9223372036854775807) :
    Step P N c σ o ⟨.oref d, [(d, .rr E1 E sz (List.replicate m.toNat []) [])]⟩ where
  ok := by
    rintro σ' hA B F w0 n a w hdn ⟨g, r⟩ Q _
    have hmx : x ∈ o.op.operands := by simp [ho, Op.operands]
    have hmy : y ∈ o.op.operands := by simp [ho, Op.operands]
    have hn' := hA.2.1 d hd hn
    have e1 := raw_eval (ev_rep r x) (by rw [hA.1 x hmx, hx]; rfl)
    have e2 := raw_eval (ev_rep r y) (by rw [hA.1 y hmy, hy]; rfl)
    obtain ⟨hu, hE, _⟩ := slE_ok hT hs
    obtain ⟨i, ds, z, q1, q2, q3, q4, q5, q6, q7, q8, q9, q10⟩ := hE
    rw [hz] at q7 q10
    simp only [flat, Option.some.injEq] at q7
    simp only [DV.len] at q10
    have hr := run_make (P := P) w t E1 i z hu q1 q6 k k' m m h0 (Int.le_refl _) (by rw [q5]; exact hb) h63
    have hzc : z.cells.toList = [.slice none 0 0] := q7.symm
    have hzs : z.cells.size = 1 := by have := congrArg List.length hzc; simpa using this
    have hcl : (madeCells z.cells (m.toNat * i.size)).toList = List.replicate m.toNat (.slice none 0 0) := by
      rw [q4, ← q10, ← hzs, madeCells_flat, hzc, List.flatten_replicate_singleton]
    have hsz : (madeCells z.cells (m.toNat * i.size)).size = m.toNat := by rw [size_madeCells, q4, ← q10, Nat.mul_one]
    unfold Oper.wp
    have hrun : (execOp a.eval o).run P w = .ok (.value (.slice (some ⟨w.heap.size, 0, none⟩) m.toNat m.toNat)) (w.alloc (.cells (madeCells z.cells (m.toNat * i.size)) E1)) := by
      simp only [execOp, ho, e1, e2, Sem.run_bind, hr, Result.andThen_ok, Sem.run_pure]
    rw [hrun, Oper.upon_value, hd]
    refine ⟨_, (r.allocrr (Nat.lt_of_lt_of_le (hdn d hd) r.nlt) hn' E1 E sz m.toNat (by simp only [maxLen]; omega) _ hsz (fun j hj => ?_)).put (x := .oref d) (by simp [RepS, upd_same]) (fun k hk => by simp only [AV.refs] at hk; rw [hk, St.obj_set, if_pos rfl]; simp) (hdn d hd)⟩
    rw [← Array.getElem?_toList, hcl, List.getElem?_replicate, if_pos hj]
  objs := fun p hp => by simp only [List.mem_singleton] at hp; subst hp; exact .inl ⟨hd, hn⟩
  okk := fun σ' hA ok => by rw [hd]; exact Ok_new ok (fun _ _ _ e => by cases e) (fun k hk => .inl (by simpa [AV.refs] using hk)) (fun _ _ _ _ _ e p hp => by cases e; cases hp)
  near := fun y h => by rw [ho] at h; simp [carry] at h
  made := fun _ k hk => by simp only [AV.refs] at hk; rw [hk]; exact hd
/-- A place in one's own slice of own slices. -/
theorem Step.idxrr (hT : TabOk P T) {c : Bool} {o : Oper} {t E : TypeId} {te : TE} {x y : Operand} {k : IntKind} {i : Int} {id : Nat} {T' E' : TypeId} {sz : Nat} {xss : List (List DV)} {hs : List (Nat × Nat)} (ho : o.op = .indexAddr t x y) (hsl : slE T t = some (E, te))
    (hx : ev σ x = .oref id) (hob : σ.obj id = some (.rr T' E' sz xss hs)) (hy : ev σ y = .dat (.v (.int k i))) (h0 : 0 ≤ i) (h1 : i < xss.length) : Step P N c σ o ⟨.pt id [.idx i.toNat] (i.toNat * te.size), []⟩ := by
  have hmx : x ∈ o.op.operands := by simp [ho, Op.operands]
  have hlk : looks o = true := by simp [looks, ho]
  refine Step.value (fun σ' hA B F w0 n a w g rr => ?_) (fun σ' hA ok k' hk => ?_)
  · have e2 := raw_eval (ev_rep rr y) (by rw [hA.1 y (by simp [ho, Op.operands]), hy]; rfl)
    have hev := ev_rep rr x
    rw [hA.1 x hmx, hx] at hev
    simp only [RepS] at hev
    have hob' : σ'.obj id = some (.rr T' E' sz xss hs) := by rw [hA.2.2 hlk x hmx id (by rw [hx]; simp [AV.refs])]; exact hob
    have hO := rr.objs id
    rw [hob'] at hO
    simp only [RepO] at hO
    obtain ⟨hu, hE, _⟩ := slE_ok hT hsl
    have hsz := run_sizeOf hE w
    obtain ⟨m1, cc, cur, m2, _⟩ := hO
    refine ⟨.pointer (some ⟨g.blk id, 0 + i.toNat * te.size, none⟩), ?_, by simp [RepS]⟩
    simp [execOp, ho, hev, m2, e2, Instr.indexAt, asIntOf_int, run_underlying hu, hsz, h0, h1, addr_add]
  · simp only [AV.refs] at hk
    subst hk
    rw [hA.2.2 hlk x hmx _ (by rw [hx]; simp [AV.refs]), hob]
    simp
/-- What stands at a place that was taken out. -/
theorem Step.loadrr (hT : TabOk P T) {c : Bool} {o : Oper} {t : TypeId} {te : TE} {x : Operand} {id d m off : Nat} {T' E' : TypeId} {sz : Nat} {xss : List (List DV)} {hs : List (Nat × Nat)} (ho : o.op = .load t x) (ht : tget T t = some te) (ha : te.d.agg = false)
    (hx : ev σ x = .pt id [.idx m] off) (hoff : off = m) (hob : σ.obj id = some (.rr T' E' sz xss hs)) (hm : m < xss.length) (hh : holeAt hs m = some d) : Step P N c σ o ⟨.oref d, []⟩ := by
  have hmx : x ∈ o.op.operands := by simp [ho, Op.operands]
  have hlk : looks o = true := by simp [looks, ho]
  have hmem : ∃ p ∈ hs, p.2 = d := by
    unfold holeAt at hh
    rw [Option.map_eq_some_iff] at hh
    obtain ⟨p, hp, e⟩ := hh
    exact ⟨p, List.mem_of_find?_eq_some hp, e⟩
  have hobA : ∀ σ', Agree o σ σ' → σ'.obj id = some (.rr T' E' sz xss hs) := fun σ' hA => by rw [hA.2.2 hlk x hmx id (by rw [hx]; simp [AV.refs])]; exact hob
  refine Step.value (fun σ' hA B F w0 n a w g rr => ?_) (fun σ' hA ok k' hk => ?_)
  · have hev := ev_rep rr x
    rw [hA.1 x hmx, hx] at hev
    simp only [RepS] at hev
    have hO := rr.objs id
    rw [hobA σ' hA] at hO
    simp only [RepO] at hO
    obtain ⟨m1, cc, cur, m2, m3, m4, m5, m6, m7⟩ := hO
    obtain ⟨u, q1, q2⟩ := m7 m _ (List.getElem?_eq_getElem hm)
    rw [hh] at q2
    simp only at q2
    obtain ⟨v, hv, hrep⟩ := run_load_at (P := P) (w := w) (g := g) (y := .oref d) (cs := [g.hdr d]) (b := g.blk id) (o := off) (hT t te ht) (by simp [RepA]) (fun j v hj => by
      cases j with
      | zero =>
        simp only [List.getElem?_cons_zero, Option.some.injEq] at hj
        subst hj
        rw [cell_of_row w _ _ cur T' (0, 0) m3, hoff, Nat.add_zero, ← q2]; exact q1
      | succ j => simp at hj) (by rw [ha]; rfl) (fun h => by simp [AV.agg] at h)
    exact ⟨v, by simp only [execOp, ho, hev, Sem.run_bind, hv, Result.andThen_ok, Sem.run_pure], hrep⟩
  · simp only [AV.refs] at hk
    subst hk
    obtain ⟨p, hp, e⟩ := hmem
    rw [← e]
    exact ok.2.2 id T' E' sz xss hs (hobA σ' hA) p hp
/-- Another own slice is put at a place. -/
theorem Step.storerr (hT : TabOk P T) {o : Oper} {t : TypeId} {te : TE} {x y : Operand} {id d m off : Nat} {T' E' : TypeId} {sz : Nat} {xss : List (List DV)} {hs hs' : List (Nat × Nat)} (ho : o.op = .store t x y) (hd : o.dst = none) (ht : tget T t = some te) (hts : te.size = 1)
    (hx : ev σ x = .pt id [.idx m] off) (hoff : off = m) (hob : σ.obj id = some (.rr T' E' sz xss hs)) (hm : m < xss.length) (hy : ev σ y = .oref d)
    (hh : ∀ j, holeAt hs' j = if j = m then some d else holeAt hs j) (hm' : ∀ p ∈ hs', p ∈ hs ∨ p.2 = d) :
    Step P N true σ o ⟨.dead, [(id, .rr T' E' sz xss hs')]⟩ where
  ok := by
    rintro σ' hA B F w0 n a w hdn ⟨g, r⟩ Q _
    have hmx : x ∈ o.op.operands := by simp [ho, Op.operands]
    have hmy : y ∈ o.op.operands := by simp [ho, Op.operands]
    have hlk : looks o = true := by simp [looks, ho]
    have hob' : σ'.obj id = some (.rr T' E' sz xss hs) := by rw [hA.2.2 hlk x hmx id (by rw [hx]; simp [AV.refs])]; exact hob
    have hevx := ev_rep r x
    rw [hA.1 x hmx, hx] at hevx
    simp only [RepS] at hevx
    have hevy := ev_rep r y
    rw [hA.1 y hmy, hy] at hevy
    simp only [RepS] at hevy
    have hdref : σ'.obj d ≠ none := ev_refs r.ok y d (by rw [hA.1 y hmy, hy]; simp [AV.refs])
    have hO := r.objs id
    rw [hob'] at hO
    simp only [RepO] at hO
    obtain ⟨m1, cc, cur, m2, m3, m4, m5, m6, m7⟩ := hO
    have hone : (g.hdr d).cells.toList = [g.hdr d] := by
      have := r.hv d
      cases hg : g.hdr d <;> simp_all [Value.oneCell', Value.cells]
    have hfit : off + [g.hdr d].length ≤ cur.size := by simp only [List.length_singleton]; omega
    have hrun := run_store_at (P := P) (u := a.eval y) (cs := [g.hdr d]) (hT t te ht) m3 (by rw [hevy]; exact hone) (by rw [hts]; rfl) hfit (fun v hv => by simp only [List.mem_singleton] at hv; subst hv; exact r.hv d)
    have hcells : (cur.toList.take off ++ [g.hdr d] ++ cur.toList.drop (off + [g.hdr d].length)) = cur.toList.set m (g.hdr d) := by
      subst hoff
      rw [List.set_eq_take_append_cons_drop, if_pos (by simp; omega)]
      simp
    rw [hcells] at hrun
    unfold Oper.wp
    have hrun' : (execOp a.eval o).run P w = .ok .skip (w.setRow (g.blk id) (cur.toList.set m (g.hdr d)).toArray) := by
      simp only [execOp, ho, hevx, Sem.run_bind, hrun, Result.andThen_ok, Sem.run_pure]
    rw [hrun', Oper.upon_skip, hd]
    have hid : σ'.obj id ≠ none := by rw [hob']; simp
    have hS := (r.own id m1).1
    have hother : ∀ k, k ≠ g.blk id → (w.setRow (g.blk id) (cur.toList.set m (g.hdr d)).toArray).heap[k]? = w.heap[k]? := fun k hk => setRow_other w (g.blk id) k _ hk
    refine ⟨g, r.rewrite m1 hid _ (.rr T' E' sz xss hs') ?_ (fun _ _ _ e => by cases e) (fun _ _ _ _ _ e p hp => ?_)⟩
    · simp only [RepO]
      refine ⟨m1, cc, _, m2, setRow_heap w _ cur _ T' (0, 0) m3, by simp [m4], m5, m6, fun j xs hj => ?_⟩
      have hlt : j < xss.length := (List.getElem?_eq_some_iff.1 hj).1
      rw [hh j]
      by_cases hjm : j = m
      · subst hjm
        refine ⟨g.hdr d, ?_, by rw [if_pos rfl]⟩
        rw [List.getElem?_toArray, List.getElem?_set_self (by rw [Array.length_toList]; omega)]
      · obtain ⟨u, q1, q2⟩ := m7 j xs hj
        refine ⟨u, ?_, ?_⟩
        · simp only [List.getElem?_toArray]
          rw [List.getElem?_set_ne (fun e => hjm e.symm)]; simpa using q1
        · rw [if_neg hjm]
          cases hho : holeAt hs j with
          | some d' => rw [hho] at q2; exact q2
          | none =>
            rw [hho] at q2
            simp only at q2 ⊢
            rcases q2 with q2 | ⟨b0, c0, cur0, e1, e2, e3, e4, e5, e6, e7⟩
            · exact .inl q2
            · have hbne : b0 ≠ g.blk id := fun e => (r.sub id j b0 e1).2.2.2.1 id m1 e.symm
              exact .inr ⟨b0, c0, cur0, e1, e2, by rw [hother b0 hbne]; exact e3, e4, e5, e6, RepF.frame (fun _ h => h) (fun k hk _ => hother k (fun e => hS (e ▸ hk))) _ _ _ e7⟩
    · cases e
      rcases hm' p hp with h | h
      · exact r.ok.2.2 id T' E' sz xss hs hob' p h
      · rw [h]; exact hdref
  objs := fun p hp => by
    simp only [List.mem_singleton] at hp
    subst hp
    exact .inr ⟨rfl, by simp [looks, ho], x, by simp [wr, ho], by rw [hx]; simp [AV.refs]⟩
  okk := fun σ' hA ok => by
    have hmx : x ∈ o.op.operands := by simp [ho, Op.operands]
    have hmy : y ∈ o.op.operands := by simp [ho, Op.operands]
    have hob' : σ'.obj id = some (.rr T' E' sz xss hs) := by rw [hA.2.2 (by simp [looks, ho]) x hmx id (by rw [hx]; simp [AV.refs])]; exact hob
    have hdref : σ'.obj d ≠ none := ev_refs ok y d (by rw [hA.1 y hmy, hy]; simp [AV.refs])
    rw [hd]
    refine Ok_old ok (by rw [hob']; simp) (fun T2 sz2 x2 e2 k hk => by cases e2) (fun _ _ _ _ _ e p hp => ?_)
    cases e
    rcases hm' p hp with h | h
    · exact ok.2.2 id T' E' sz xss hs hob' p h
    · rw [h]; exact hdref
  near := fun y h => by rw [ho] at h; simp [carry] at h
end
section
variable {P : Program} {N : Value → Prop} {T : Tab} {ops : Array Oper} {cf : Oper → Bool} {K : AExit → St → Prop} {o : Oper} {rest : List Oper} {L : List (Nat × AV)} {O : List (Nat × Obj)}
theorem AOps.makerr (hT : TabOk P T) {d : Nat} {t : TypeId} {x y : Operand} {E1 E : TypeId} {sz : Nat} {te : TE} {κ κ' : IntKind} {m : Int} (ho : o.op = .makeSlice t x y) (hd : o.dst = some d) (hg : gOn ops L o = true) (hn : lookO O d = none)
    (hs : slE T t = some (E1, te)) (hz : te.zero = .sl E sz []) (hx : ev (mkSt L O) x = .dat (.v (.int κ m))) (hy : ev (mkSt L O) y = .dat (.v (.int κ' m))) (h0 : 0 ≤ m) (hb : (te.bytes : Int) * m ≤ 281474976710656) (h63 : m ≤ 9223372036854775807) {zs : List (List DV)} (e : List.replicate m.toNat [] = zs)
    (k : AOps P ops cf K rest (mkSt ((d, .oref d) :: L) ((d, .rr E1 E sz zs []) :: O))) : AOps P ops cf K (o :: rest) (mkSt L O) :=
  AOps.eff hg (Step.makerr hT ho hd hn hs hz hx hy h0 hb h63) (by rw [hd]; subst e; exact k)
theorem AOps.idxrr (hT : TabOk P T) {d : Nat} {t E : TypeId} {te : TE} {x y : Operand} {κ : IntKind} {i : Int} {id : Nat} {T' E' : TypeId} {sz : Nat} {xss : List (List DV)} {hs : List (Nat × Nat)} (ho : o.op = .indexAddr t x y) (hd : o.dst = some d) (hg : gOn ops L o = true) (hsl : slE T t = some (E, te))
    (hx : ev (mkSt L O) x = .oref id) (hob : lookO O id = some (.rr T' E' sz xss hs)) (hts : Nat.beq te.size 1 = true) (hy : ev (mkSt L O) y = .dat (.v (.int κ i))) (h0 : 0 ≤ i) (h1 : i < xss.length) {m : Nat} (em : i.toNat = m)
    (k : AOps P ops cf K rest (mkSt ((d, .pt id [.idx m] m) :: L) O)) : AOps P ops cf K (o :: rest) (mkSt L O) := by
  subst em
  have e := Nat.eq_of_beq_eq_true hts
  have := Step.idxrr (N := panOf K) (c := cf o) hT ho hsl hx hob hy h0 h1
  rw [e, Nat.mul_one] at this
  exact AOps.v hd hg this k
theorem AOps.loadrr (hT : TabOk P T) {d dd : Nat} {t : TypeId} {te : TE} {x : Operand} {id m : Nat} {T' E' : TypeId} {sz : Nat} {xss : List (List DV)} {hs : List (Nat × Nat)} (ho : o.op = .load t x) (hd : o.dst = some dd) (hg : gOn ops L o = true) (ht : tget T t = some te) (ha : te.d.agg = false)
    (hx : ev (mkSt L O) x = .pt id [.idx m] m) (hob : lookO O id = some (.rr T' E' sz xss hs)) (hm : m < xss.length) (hh : holeAt hs m = some d) (k : AOps P ops cf K rest (mkSt ((dd, .oref d) :: L) O)) : AOps P ops cf K (o :: rest) (mkSt L O) :=
  AOps.v hd hg (Step.loadrr hT ho ht ha hx rfl hob hm hh) k
theorem AOps.storerr (hT : TabOk P T) {t : TypeId} {te : TE} {x y : Operand} {id d m : Nat} {T' E' : TypeId} {sz : Nat} {xss : List (List DV)} {hs hs' : List (Nat × Nat)} (ho : o.op = .store t x y) (hcf : cf o = true) (hd : o.dst = none) (hg : gOn ops L o = true) (ht : tget T t = some te) (hts : Nat.beq te.size 1 = true)
    (hx : ev (mkSt L O) x = .pt id [.idx m] m) (hob : lookO O id = some (.rr T' E' sz xss hs)) (hm : m < xss.length) (hy : ev (mkSt L O) y = .oref d)
    (hh : ∀ j, holeAt hs' j = if j = m then some d else holeAt hs j) (hm' : ∀ p ∈ hs', p ∈ hs ∨ p.2 = d)
    (k : AOps P ops cf K rest (mkSt L ((id, .rr T' E' sz xss hs') :: O))) : AOps P ops cf K (o :: rest) (mkSt L O) := by
  refine AOps.eff hg (e := ⟨.dead, [(id, .rr T' E' sz xss hs')]⟩) ?_ (by rw [hd]; exact k)
  rw [hcf]
  exact Step.storerr hT ho hd ht (Nat.eq_of_beq_eq_true hts) hx rfl hob hm hy hh hm'
theorem hole1 {m d d' : Nat} (j : Nat) : holeAt [(m, d)] j = if j = m then some d else holeAt [(m, d')] j := by
  by_cases h : j = m
  · subst h; rw [if_pos rfl, holeAt_hd]
  · rw [if_neg h, holeAt_tl (fun e => h e.symm), holeAt_tl (fun e => h e.symm)]
theorem hole1m {m d d' : Nat} : ∀ p ∈ [(m, d)], p ∈ [(m, d')] ∨ p.2 = d := fun p hp => by simp only [List.mem_singleton] at hp; subst hp; exact .inr rfl
/-- An own slice is taken out of its place. -/
theorem Sub.lend {id d m : Nat} {T' E : TypeId} {sz : Nat} {xss : List (List DV)} {hs : List (Nat × Nat)} {xs : List DV} (hobj : lookO O id = some (.rr T' E sz xss hs)) (hd : lookO O d = none) (hx : xss[m]? = some xs) (hm : holeAt hs m = none) (hlt : d < 1000000 := by decide) :
    Sub (mkSt L ((d, .row E sz xs) :: (id, .rr T' E sz xss ((m, d) :: hs)) :: O)) (mkSt L O) := by
  rintro B F w0 n a w ⟨g, r⟩
  exact r.lend hobj hd hx hm hlt
/-- An own slice is put back. -/
theorem Sub.unlend {id d m : Nat} {T' E : TypeId} {sz : Nat} {xss zss : List (List DV)} {hs : List (Nat × Nat)} {xs : List DV} (hobj : lookO O id = some (.rr T' E sz xss ((m, d) :: hs))) (hd : lookO O d = some (.row E sz xs)) (hm : holeAt hs m = none) (e : xss.set m xs = zss) (hlt : d < 1000000 := by decide) :
    Sub (mkSt L ((d, .gone) :: (id, .rr T' E sz zss hs) :: O)) (mkSt L O) := by
  subst e
  rintro B F w0 n a w ⟨g, r⟩
  exact r.unlend hobj hd hm hlt
theorem AWp.freezerr {B : Nat → Nat → Prop} {n : Nat} {c : Code} {Q : AExit → St → Prop} (i id : Nat) {T' E : TypeId} {sz : Nat} {xss : List (List DV)} {ys : List DV} (hi : look L i = .oref id) (ho : lookO O id = some (.rr T' E sz xss [])) (e : (xss.map fun xs => DV.sl E sz xs) = ys)
    (h : AWp P B n c (mkSt ((i, .dat (.sl T' 1 ys)) :: L) ((id, .gone) :: O)) Q) (hid : id < 1000000 := by decide) : AWp P B n c (mkSt L O) Q := by
  subst e
  rintro F w0 a w ⟨g, r⟩
  obtain ⟨g', r', hrep, hhdr⟩ := r.freezerr hid ho
  refine h F w0 a w ⟨g', { os := r'.os, tape := r'.tape, output := r'.output, size := r'.size, old := r'.old, n := r'.n, nlt := r'.nlt, glob := r'.glob, defers := r'.defers, sF := r'.sF, sB := r'.sB, own := r'.own, dj := r'.dj, slots := fun j => ?_, objs := r'.objs, ok := ⟨fun j k hk => ?_, r'.ok.2⟩, hv := r'.hv, sub := r'.sub }⟩
  · have hs := r'.slots j
    simp only [mkSt, look] at hs ⊢
    split
    · rename_i hj
      have := Nat.eq_of_beq_eq_true hj
      subst this
      have hs' : RepS w _ (look L j) (a.tmps.getD j undef) := hs
      rw [hi] at hs'
      simp only [RepS] at hs' ⊢
      simp only [RepV]
      rw [hs', hhdr]
      exact hrep
    · exact hs
  · simp only [mkSt, look] at hk
    split at hk
    · simp [AV.refs] at hk
    · exact r'.ok.1 j k hk
theorem mm_get {α : Type} {enc : α → DV} {xss : List (List α)} {m : Nat} {xs : List α} (h : xss[m]? = some xs) : (List.map (List.map enc) xss)[m]? = some (List.map enc xs) := by rw [List.getElem?_map, h]; rfl
theorem mm_set {α : Type} {enc : α → DV} {xss : List (List α)} {m : Nat} {xs : List α} : (List.map (List.map enc) xss).set m (List.map enc xs) = List.map (List.map enc) (xss.set m xs) := by rw [List.map_set]
theorem mm_rep {α : Type} {enc : α → DV} {m : Nat} {zs : List (List α)} (h : List.replicate m [] = zs) : List.replicate m [] = List.map (List.map enc) zs := by rw [← h, List.map_replicate]; rfl
theorem mm_sl {α : Type} {enc : α → DV} {E : TypeId} {sz : Nat} {xss : List (List α)} : ((List.map (List.map enc) xss).map fun xs => DV.sl E sz xs) = List.map (eSl E sz enc) xss := by rw [List.map_map]; rfl
theorem mm_lt {α : Type} {enc : α → DV} {xss : List (List α)} {i : Int} {x : List α} (h0 : 0 ≤ i) (h : xss[i.toNat]? = some x) : i < (List.map (List.map enc) xss).length := by
  have := (List.getElem?_eq_some_iff.1 h).1; rw [List.length_map]; omega
theorem mm_lt2 {α : Type} {enc : α → DV} {xss : List (List α)} {m : Nat} {x : List α} (h : xss[m]? = some x) : m < (List.map (List.map enc) xss).length := by
  have := (List.getElem?_eq_some_iff.1 h).1; rw [List.length_map]; omega
end
end Go.Sim
