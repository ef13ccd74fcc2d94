/- What is proved: the step rules for slices that are made, appended to, read at a place, and cut. -/
import Derived.Test.YtnhflokfcnfegaaSim19
namespace Go.Sim
open Go.RowKit

section
variable {P : Program} {T : Tab} {σ : St}

/-- A new slice that is shared from the first. -/
theorem Step.newsl {c : Bool} {o : Oper} {E : TypeId} {sz : Nat} {ys : List DV}
    (h : ∀ σ', Agree o σ σ' → ∀ (B F : Nat → Prop) (w0 : World) (n : Nat) (a : Act) (w : World) (g : Gh), RelG B F w0 n σ' a w g →
      ∃ (cs : Array Value) (m : Nat), (execOp a.eval o).run P w = .ok (.value (.slice (some ⟨w.heap.size, 0, none⟩) ys.length m)) (w.alloc (.cells cs E)) ∧ ys.length ≤ m ∧
        RepF w g.S ys (List.replicate ys.length sz) (cs.toList.take (ys.length * sz))) : Step P c σ o ⟨.dat (.sl E sz ys), []⟩ where
  ok := by
    rintro σ' hA B F w0 n a w hdn ⟨g, r⟩ Q
    obtain ⟨cs, m, h1, h2, h3⟩ := h σ' hA B F w0 n a w g r
    unfold Oper.wp
    rw [h1, Oper.upon_value]
    have hold : ∀ k, k < w.heap.size → (w.alloc (.cells cs E)).heap[k]? = w.heap[k]? := fun k hk => heap_alloc_old w _ k hk
    have r2 := r.world (w' := w.alloc (.cells cs E)) rfl rfl rfl (by simp) hold (fun k => k = w.heap.size) (fun k hk => by subst hk; simp)
    refine ⟨_, RelG.putO r2 o.dst (x := .dat (.sl E sz ys)) ?_ (fun k hk => by simp [AV.refs] at hk) hdn⟩
    simp only [RepS, RepV, RepD]
    refine ⟨_, m, _, rfl, h2, RepF.frame (fun _ hk => .inl hk) (fun k _ hk => hold k hk) _ _ _ h3, .inr ⟨w.heap.size, 0, rfl, .inr rfl, fun j u hj => ?_⟩⟩
    rw [cell_of_row _ _ _ cs E (0, 0) (heap_alloc_new w _), Nat.zero_add]
    rw [List.getElem?_take] at hj
    split at hj
    · simpa using hj
    · cases hj
  objs := fun p hp => by cases hp
  okk := fun σ' _ ok => Ok_dat ok o.dst _

theorem ops_build {o : Oper} {t : TypeId} {m : Nat} {ps : Array (Nat × Operand)} (ho : o.op = .buildSlice t m ps) : ∀ p ∈ ps.toList, p.2 ∈ o.op.operands := by
  intro p hp; rw [ho]; simp only [Op.operands, List.mem_toArray, List.mem_map]; exact ⟨p, hp, rfl⟩

/-- A literal, shared. -/
theorem Step.lit (hT : TabOk P T) {c : Bool} {o : Oper} {t : TypeId} {m : Nat} {ps : Array (Nat × Operand)} {E : TypeId} {te : TE} {ys : List DV} (ho : o.op = .buildSlice t m ps)
    (hs : slE T t = some (E, te)) (hm : m * te.size ≤ 16777216) (hb : buildS T E te.size σ ps.toList (List.replicate m te.zero) = some ys) : Step P c σ o ⟨.dat (.sl E te.size ys), []⟩ := by
  refine Step.newsl (fun σ' hA B F w0 n a w g r => ?_)
  have hb' : buildS T E te.size σ' ps.toList (List.replicate m te.zero) = some ys := by rw [buildS_congr _ _ (fun p hp => hA.1 p.2 (ops_build ho p hp))]; exact hb
  obtain ⟨cs, h1, h2, h3, h4⟩ := run_buildSlice hT r hs hm hb'
  refine ⟨cs, m, ?_, by omega, ?_⟩
  · simp only [execOp, ho, Sem.run_bind, h1, Result.andThen_ok, Sem.run_pure, h2]
  · rw [List.take_of_length_le (by simp [h4, h2])]; exact h3

/-- A literal, one's own. -/
theorem Step.litown (hT : TabOk P T) {c : Bool} {o : Oper} {d : Nat} {t : TypeId} {m : Nat} {ps : Array (Nat × Operand)} {E : TypeId} {te : TE} {ys : List DV} (ho : o.op = .buildSlice t m ps) (hd : o.dst = some d) (hn : σ.obj d = none)
    (hs : slE T t = some (E, te)) (hm : m * te.size ≤ 16777216) (hm2 : m ≤ maxLen) (hb : buildS T E te.size σ ps.toList (List.replicate m te.zero) = some ys) : Step P c σ o ⟨.oref d, [(d, .row E te.size ys)]⟩ := by
  refine Step.new hd hn (fun σ' _ _ T sz y e => by cases e) (fun k hk => by simpa [AV.refs] using hk) (fun σ' hA B F w0 n a w g r hn' => ?_)
  have hb' : buildS T E te.size σ' ps.toList (List.replicate m te.zero) = some ys := by rw [buildS_congr _ _ (fun p hp => hA.1 p.2 (ops_build ho p hp))]; exact hb
  obtain ⟨cs, h1, h2, h3, h4⟩ := run_buildSlice hT r hs hm hb'
  refine ⟨cs, E, .slice (some ⟨w.heap.size, 0, none⟩) m m, .slice (some ⟨w.heap.size, 0, none⟩) m m, ?_, rfl, .inr ⟨te.size, ys, m, rfl, by rw [h2], h4, by omega, hm2, ?_⟩, ?_⟩
  · simp only [execOp, ho, Sem.run_bind, h1, Result.andThen_ok, Sem.run_pure]
  · rw [List.take_of_length_le (by simp [h4, h2])]; exact h3
  · simp [RepS, upd_same]

theorem run_mk (hT : TabOk P T) {w : World} {t E : TypeId} {te : TE} (hs : slE T t = some (E, te)) {k k' : IntKind} {m : Int} (h0 : 0 ≤ m) (hb : (te.bytes : Int) * m ≤ 281474976710656) (h63 : m ≤ 9223372036854775807) (S : Nat → Prop) :
    ∃ cs : Array Value, (Instr.makeSlice t (.int k m) (.int k' m)).run P w = .ok (.slice (some ⟨w.heap.size, 0, none⟩) m.toNat m.toNat) (w.alloc (.cells cs E)) ∧
      RepF w S (List.replicate m.toNat te.zero) (List.replicate (List.replicate m.toNat te.zero).length te.size) cs.toList ∧ cs.size = m.toNat * te.size := by
  obtain ⟨hu, hE, _⟩ := slE_ok hT hs
  obtain ⟨z, hz, hzU, hzs, hzl⟩ := run_zero hE w S
  obtain ⟨i, d, z', q1, q2, q3, q4, q5, q6, _⟩ := hE
  have hzz : z' = z := by simp [zeroValue, typeInfo, q1, q6] at hz; exact hz
  subst hzz
  have hr := run_make (P := P) w t E i z' hu q1 q6 k k' m m h0 (Int.le_refl _) (by rw [q5]; exact hb) h63
  refine ⟨_, hr, ?_, by rw [size_madeCells, q4]⟩
  have hz0 := zeros_rep (hzU.cells) m.toNat
  have hcl : z'.cells.toList.length = te.size := by simpa using hzs
  rw [hcl] at hz0
  rw [q4, ← hzs, madeCells_flat, List.length_replicate, hzs]
  exact hz0

/-- A slice that is made, one's own. -/
theorem Step.makeown (hT : TabOk P T) {c : Bool} {o : Oper} {d : Nat} {t : TypeId} {x y : Operand} {E : TypeId} {te : TE} {k k' : IntKind} {m : Int} (ho : o.op = .makeSlice t x y) (hd : o.dst = some d) (hn : σ.obj d = none)
    (hs : slE T t = some (E, te)) (hx : ev σ x = .dat (.v (.int k m))) (hy : ev σ y = .dat (.v (.int k' m))) (h0 : 0 ≤ m) (hb : (te.bytes : Int) * m ≤ 281474976710656) (h63 : m ≤ 9223372036854775807) :
    Step P c σ o ⟨.oref d, [(d, .row E te.size (List.replicate m.toNat te.zero))]⟩ := by
  have hmx : x ∈ o.op.operands := by simp [ho, Op.operands]
  have hmy : y ∈ o.op.operands := by simp [ho, Op.operands]
  refine Step.new hd hn (fun σ' _ _ T sz y e => by cases e) (fun k hk => by simpa [AV.refs] using hk) (fun σ' hA B F w0 n a w g r hn' => ?_)
  have e1 := raw_eval (ev_rep r x) (by rw [hA.1 x hmx, hx]; rfl)
  have e2 := raw_eval (ev_rep r y) (by rw [hA.1 y hmy, hy]; rfl)
  obtain ⟨cs, h1, h3, h4⟩ := run_mk hT (w := w) (k := k) (k' := k') hs h0 hb h63 g.S
  refine ⟨cs, E, .slice (some ⟨w.heap.size, 0, none⟩) m.toNat m.toNat, .slice (some ⟨w.heap.size, 0, none⟩) m.toNat m.toNat, ?_, rfl, .inr ⟨te.size, _, m.toNat, rfl, by rw [List.length_replicate], h4, by simp, by simp only [maxLen]; omega, ?_⟩, ?_⟩
  · simp only [execOp, ho, e1, e2, Sem.run_bind, h1, Result.andThen_ok, Sem.run_pure]
  · rw [List.take_of_length_le (by simp [h4])]; exact h3
  · simp [RepS, upd_same]

/-- A slice that is made, shared. -/
theorem Step.make (hT : TabOk P T) {c : Bool} {o : Oper} {t : TypeId} {x y : Operand} {E : TypeId} {te : TE} {k k' : IntKind} {m : Int} (ho : o.op = .makeSlice t x y)
    (hs : slE T t = some (E, te)) (hx : ev σ x = .dat (.v (.int k m))) (hy : ev σ y = .dat (.v (.int k' m))) (h0 : 0 ≤ m) (hb : (te.bytes : Int) * m ≤ 281474976710656) (h63 : m ≤ 9223372036854775807) :
    Step P c σ o ⟨.dat (.sl E te.size (List.replicate m.toNat te.zero)), []⟩ := by
  have hmx : x ∈ o.op.operands := by simp [ho, Op.operands]
  have hmy : y ∈ o.op.operands := by simp [ho, Op.operands]
  refine Step.newsl (fun σ' hA B F w0 n a w g r => ?_)
  have e1 := raw_eval (ev_rep r x) (by rw [hA.1 x hmx, hx]; rfl)
  have e2 := raw_eval (ev_rep r y) (by rw [hA.1 y hmy, hy]; rfl)
  obtain ⟨cs, h1, h3, h4⟩ := run_mk hT (w := w) (k := k) (k' := k') hs h0 hb h63 g.S
  refine ⟨cs, m.toNat, ?_, by simp, ?_⟩
  · simp only [execOp, ho, e1, e2, Sem.run_bind, h1, Result.andThen_ok, Sem.run_pure, List.length_replicate]
  · rw [List.take_of_length_le (by simp [h4])]; exact h3

/-! ### Append -/

theorem RepF.replicate_append {w : World} {S : Nat → Prop} {xs ys : List DV} {sz : Nat} {cs ds : List Value} (h : RepF w S xs (List.replicate xs.length sz) cs) (k : RepF w S ys (List.replicate ys.length sz) ds) :
    RepF w S (xs ++ ys) (List.replicate (xs ++ ys).length sz) (cs ++ ds) := by
  have := RepF.append h k
  rwa [List.replicate_append_replicate, ← List.length_append] at this

/-- What is appended: a slice of closed data, or one's own. -/
def srcOk (σ : St) (x : Operand) (sz : Nat) (ys : List DV) : Prop :=
  (∃ E', ev σ x = .dat (.sl E' sz ys)) ∨ (∃ id E', ev σ x = .oref id ∧ σ.obj id = some (.row E' sz ys))

theorem src_rep {B F : Nat → Prop} {w0 w : World} {n : Nat} {a : Act} {g : Gh} (r : RelG B F w0 n σ a w g) {x : Operand} {sz : Nat} {ys : List DV} (h : srcOk σ x sz ys) :
    ∃ ad c row, a.eval x = .slice ad ys.length c ∧ RepF w g.S ys (List.replicate ys.length sz) row ∧ (∀ b, ad = some b → ∀ j u, row[j]? = some u → w.cell? (b.add j) = some u) ∧ (ad = none → row = []) := by
  have hev := ev_rep r x
  rcases h with ⟨E', e⟩ | ⟨id, E', e, ho⟩
  · rw [e] at hev
    simp only [RepS, RepV, RepD] at hev
    obtain ⟨ad, c, row, e1, h1, h2, h3⟩ := hev
    simp only [List.cons.injEq, and_true] at e1
    refine ⟨ad, c, row, e1, h2, ?_, ?_⟩
    · intro b hb j u hj
      rcases h3 with rfl | ⟨b', o', rfl, _, hc⟩
      · simp at hj
      · cases hb; rw [addr_add]; exact hc j u hj
    · rintro rfl
      rcases h3 with rfl | ⟨b', o', h, _⟩
      · rfl
      · cases h
  · rw [e] at hev
    simp only [RepS] at hev
    have hO := r.objs id
    rw [ho] at hO
    simp only [RepO] at hO
    rcases hO with ⟨m1, rfl, m3⟩ | ⟨m1, c, cur, m2, m3, m4, m5, m6, m7⟩
    · exact ⟨none, 0, [], by rw [hev, m3]; rfl, by simp [RepF], by simp⟩
    · refine ⟨_, c, _, by rw [hev, m2], m7, ?_, fun h => by cases h⟩
      intro b hb j u hj
      cases hb
      rw [addr_add, Nat.zero_add, cell_of_row w _ _ cur E' (0, 0) m3]
      rw [List.getElem?_take] at hj
      split at hj
      · simpa using hj
      · cases hj

theorem rowOwns {w : World} {g : Gh} {id : Nat} {E : TypeId} {sz : Nat} {xs : List DV} (hO : RepO w g id (some (.row E sz xs))) : ∃ cells, w.ownsRow 0 E sz (g.hdr id) xs.length cells ∧ RepF w g.S xs (List.replicate xs.length sz) cells := by
  simp only [RepO] at hO
  rcases hO with ⟨m1, rfl, m3⟩ | ⟨m1, c, cur, m2, m3, m4, m5, m6, m7⟩
  · exact ⟨[], by rw [m3]; exact World.ownsRow_nil w 0 E sz, by simp [RepF]⟩
  · refine ⟨_, ⟨?_, .inr ⟨_, c, cur, m2, Nat.zero_le _, m3, m5, m6, m4, rfl⟩⟩, m7⟩
    simp only [List.length_take, Array.length_toList, m4]
    exact Nat.min_eq_left (Nat.mul_le_mul_right _ m5)

theorem Step.append (hT : TabOk P T) {o : Oper} {d id : Nat} {t E : TypeId} {te : TE} {x y : Operand} {xs ys : List DV}
    (ho : o.op = .call { callee := .builtin .append, args := #[x, y], argTypes := #[t, t] }) (hd : o.dst = some d) (hn : σ.obj d = none) (hs : slE T t = some (E, te)) (hsz : 0 < te.size)
    (hx : ev σ x = .oref id) (hob : σ.obj id = some (.row E te.size xs)) (hy : srcOk σ y te.size ys) (h63 : xs.length + ys.length ≤ maxLen) (hby : (xs.length + ys.length) * te.bytes ≤ 140737488355328) :
    Step P true σ o ⟨.oref d, [(id, .gone), (d, .row E te.size (xs ++ ys))]⟩ where
  ok := by
    rintro σ' hA B F w0 n a w hdn ⟨g, r⟩ Q
    have hmx : x ∈ o.op.operands := by simp [ho, Op.operands, Call.operands]
    have hmy : y ∈ o.op.operands := by simp [ho, Op.operands, Call.operands]
    have hlk : looks o = true := by simp [looks, ho]
    have hn' := hA.2.1 d hd hn
    have hob' : σ'.obj id = some (.row E te.size xs) := by rw [hA.2.2 hlk x hmx id (by rw [hx]; simp [AV.refs])]; exact hob
    have hy' : srcOk σ' y te.size ys := by
      rcases hy with ⟨E', e⟩ | ⟨id', E', e, h⟩
      · exact .inl ⟨E', by rw [hA.1 y hmy, e]⟩
      · exact .inr ⟨id', E', by rw [hA.1 y hmy, e], by rw [hA.2.2 hlk y hmy id' (by rw [e]; simp [AV.refs])]; exact h⟩
    have hevx := ev_rep r x
    rw [hA.1 x hmx, hx] at hevx
    simp only [RepS] at hevx
    obtain ⟨ad, c, row, e1, h1, h2, h3⟩ := src_rep r hy'
    have hO := r.objs id
    rw [hob'] at hO
    obtain ⟨cells, hown, hcells⟩ := rowOwns hO
    obtain ⟨hu, hE, _⟩ := slE_ok hT hs
    obtain ⟨i, dd, z, q1, q2, q3, q4, q5, q6, q7, q8, q9, q10⟩ := hE
    have hzs : z.cells.size = te.size := by
      have := RepD.len (RepD.of_flat (w := w) (S := g.S) _ _ q7)
      simpa [q10] using this
    have hrowlen : row.length = ys.length * te.size := by have := (RepF.length h1).1; simpa using this
    have hrow1 := RepF.one ys _ row h1
    have hsmall : xs.length + ys.length ≤ 9223372036854775807 := by simp only [maxLen] at h63; omega
    have hlen2 : (cells ++ row).length = (xs.length + ys.length) * te.size := by rw [List.length_append, hown.1, hrowlen, Nat.add_mul]
    have grown : ∀ old, old < xs.length + ys.length → ∀ rw' : Option Nat,
        (w.drew.alloc (.cells (cells.toArray ++ row.toArray ++ Builtin.zeroCells z.cells (grownCap w (xs.length + ys.length) old E - (xs.length + ys.length))) E)).ownsRow 0 E te.size
          (.slice (some ⟨w.heap.size, 0, none⟩) (xs.length + ys.length) (grownCap w (xs.length + ys.length) old E)) (xs.length + ys.length) (cells ++ row) ∧
        w.grownBy (w.drew.alloc (.cells (cells.toArray ++ row.toArray ++ Builtin.zeroCells z.cells (grownCap w (xs.length + ys.length) old E - (xs.length + ys.length))) E)) rw' := by
      intro old hold rw'
      have hge := grownCap_ge w (xs.length + ys.length) old E
      have hcm := grownCap_le_maxLen w (xs.length + ys.length) old E h63
      refine ⟨⟨hlen2, .inr ⟨w.heap.size, _, _, rfl, Nat.zero_le _, heap_alloc_new w.drew _, hge, hcm, ?_, ?_⟩⟩, ⟨rfl, rfl, rfl, by simp, fun k hk _ => heap_alloc_old w.drew _ k hk⟩⟩
      · simp only [Array.size_append, List.size_toArray, size_zeroCells, hzs, hown.1, hrowlen, ← Nat.add_mul]
        congr 1
        omega
      · simp only [Array.toList_append, List.append_assoc]
        rw [← List.append_assoc, ← hlen2]
        exact List.take_left
    have key : ∃ v' w', (Builtin.append_ #[t, t] o.type #[g.hdr id, .slice ad ys.length c]).run P w = .ok v' w' ∧ w'.ownsRow 0 E te.size v' (xs.length + ys.length) (cells ++ row) ∧ w.grownBy w' (g.hdr id).ownBlock ∧
        (∀ k, v'.ownBlock = some k → (w.heap.size ≤ k ∧ k < w'.heap.size) ∨ (g.has id ∧ k = g.blk id)) := by
      have hhdr := hO
      simp only [RepO] at hhdr
      rcases Nat.eq_zero_or_pos ys.length with hl | hl
      · have hr : row = [] := List.eq_nil_of_length_eq_zero (by rw [hrowlen, hl]; simp)
        subst hr
        refine ⟨g.hdr id, w, ?_, by rw [hl]; simpa using hown, ⟨rfl, rfl, rfl, Nat.le_refl _, fun _ _ _ => rfl⟩, fun k hk => ?_⟩
        · have hf : ∀ q : Nat, (Builtin.firstCells q 0 (.slice ad 0 c)).run P w = .ok #[] w := by
            intro q
            cases ad with
            | none => simp [Builtin.firstCells]
            | some b => simpa using run_firstCells_some (P := P) w q 0 b 0 c [] (by simp) (by simp)
          rw [hl]
          rcases hown.2 with ⟨e, e'⟩ | ⟨bb, cap, cur, e, _, _, hnc, _⟩
          · rw [e]; simp [Builtin.append_, run_underlying hu, sizeOf, typeInfo, q1, Builtin.lenOf, hf]
          · rw [e]; simp [Builtin.append_, run_underlying hu, sizeOf, typeInfo, q1, Builtin.lenOf, hf, hnc, storeCells]
        · rcases hhdr with ⟨m1, m2, m3⟩ | ⟨m1, c', cur, m2, _⟩
          · rw [m3] at hk; simp [Value.ownBlock] at hk
          · rw [m2] at hk; simp [Value.ownBlock] at hk; exact .inr ⟨m1, hk.symm⟩
      · cases ad with
        | none =>
          have := h3 rfl
          rw [this] at hrowlen
          simp only [List.length_nil] at hrowlen
          have := Nat.mul_pos hl hsz
          omega
        | some b =>
          rcases hhdr with ⟨m1, m2, m3⟩ | ⟨m1, c', cur, m2, m3, m4, m5, m6, m7⟩
          · have hc0 : cells = [] := List.eq_nil_of_length_eq_zero (by rw [hown.1, m2]; simp)
            have hr := run_append_nil (P := P) w t o.type E i z hu q1 q6 b ys.length c row (by rw [q4]; exact hrowlen) (h2 b rfl) hl (by omega) (by rw [q5]; have := hby; rw [m2] at this; simp at this; omega)
            have hgr := grown 0 (by omega) (g.hdr id).ownBlock
            have hxl : xs.length = 0 := by rw [m2]; rfl
            simp only [hc0, hxl, Nat.zero_add, List.nil_append, Array.empty_append] at hgr ⊢
            exact ⟨_, _, by rw [m3]; exact hr, hgr.1, hgr.2, fun k hk => by simp [Value.ownBlock] at hk; subst hk; exact .inl ⟨Nat.le_refl _, by simp⟩⟩
          · by_cases hroom : xs.length + ys.length ≤ c'
            · have hown' := hown
              rw [m2] at hown'
              obtain ⟨w', a1, a2, a3⟩ := run_append_fits (P := P) w 0 t o.type E i te.size hu q1 q4 (g.blk id) xs.length c' cells hown' b ys.length c row hrowlen (h2 b rfl) hrow1 hroom
              exact ⟨_, w', by rw [m2]; exact a1, a2, by rw [m2]; exact a3, fun k hk => by simp [Value.ownBlock] at hk; exact .inr ⟨m1, hk.symm⟩⟩
            · have holds : ∀ j u, cells[j]? = some u → w.cell? ((⟨g.blk id, 0, none⟩ : Addr).add j) = some u := hown.cells (g := g.blk id) (by rw [m2]; rfl)
              have hr := run_append_grow (P := P) w t o.type E i z hu q1 q6 ⟨g.blk id, 0, none⟩ xs.length c' cells (by rw [q4]; exact hown.1) holds b ys.length c row (by rw [q4]; exact hrowlen) (h2 b rfl) (by omega) (by omega) (by rw [q5]; exact growslice_fits (by omega) hby)
              have hgr := grown c' (by omega) (g.hdr id).ownBlock
              exact ⟨_, _, by rw [m2]; exact hr, hgr.1, hgr.2, fun k hk => by simp [Value.ownBlock] at hk; subst hk; exact .inl ⟨Nat.le_refl _, by simp⟩⟩
    obtain ⟨v', w', k1, k2, k3, k4⟩ := key
    unfold Oper.wp
    have hrun : (execOp a.eval o).run P w = .ok (.value v') w' := by
      simp [execOp, ho, resolve, invoke, builtin, hevx, e1, k1]
    rw [hrun, Oper.upon_value, hd]
    have hnewF := RepF.replicate_append hcells h1
    have hkeep : ∀ k, k < w.heap.size → (g.has id → k ≠ g.blk id) → w'.heap[k]? = w.heap[k]? := by
      intro k hk hne
      refine k3.block k hk (fun e => ?_)
      simp only [RepO] at hO
      rcases hO with ⟨m1, m2, m3⟩ | ⟨m1, c', cur, m2, _⟩
      · rw [m3] at e; simp [Value.ownBlock] at e
      · rw [m2] at e; simp [Value.ownBlock] at e; exact hne m1 e
    have hv1 : v'.oneCell' = true := by
      rcases k2.2 with ⟨rfl, _⟩ | ⟨bb, cap, cur, rfl, _⟩ <;> rfl
    have hnotnil : ∀ bb cap, v' = .slice (some ⟨bb, 0, none⟩) (xs.length + ys.length) cap → (w.heap.size ≤ bb ∧ bb < w'.heap.size) ∨ (g.has id ∧ bb = g.blk id) := fun bb cap e => k4 bb (by rw [e]; rfl)
    rcases k2.2 with ⟨e, e'⟩ | ⟨bb, cap, cur, e, _, hbb, hnc, hcm, hcs, htake⟩
    · have hx0 : xs = [] := List.eq_nil_of_length_eq_zero (by omega)
      have hy0 : ys = [] := List.eq_nil_of_length_eq_zero (by omega)
      have r2 := r.reown (by rw [hob']; simp) hn' k3.os k3.tape k3.output k3.size hkeep 0 v' hv1 False (fun h => h.elim) E te.size (xs ++ ys) (.inl ⟨fun h => h, by rw [hx0, hy0]; rfl, e⟩)
      exact ⟨_, r2.put (x := .oref d) (by simp [RepS, upd_same]) (fun k hk => by simp only [AV.refs] at hk; rw [hk, St.obj_set, if_pos rfl]; simp) (hdn d hd)⟩
    · have r2 := r.reown (by rw [hob']; simp) hn' k3.os k3.tape k3.output k3.size hkeep bb v' hv1 True (fun _ => hnotnil bb cap e) E te.size (xs ++ ys) (.inr ⟨trivial, cap, cur, by rw [List.length_append]; exact e, hbb, hcs, by rw [List.length_append]; exact hnc, hcm, by rw [List.length_append, htake, ← List.length_append]; exact hnewF⟩)
      exact ⟨_, r2.put (x := .oref d) (by simp [RepS, upd_same]) (fun k hk => by simp only [AV.refs] at hk; rw [hk, St.obj_set, if_pos rfl]; simp) (hdn d hd)⟩
  objs := fun q hq => by
    simp only [List.mem_cons, List.not_mem_nil, or_false] at hq
    rcases hq with rfl | rfl
    · exact .inr ⟨rfl, by simp [looks, ho], x, by simp [wr, ho, Op.operands, Call.operands], by rw [hx]; simp [AV.refs]⟩
    · exact .inl ⟨hd, hn⟩
  okk := fun σ' hA ok => by
    have h1 := Ok_set (Ok_set ok (d := id) (o := .gone) (fun _ _ _ e => by cases e)) (d := d) (o := .row E te.size (xs ++ ys)) (fun _ _ _ e => by cases e)
    rw [hd]
    refine ⟨fun i k hk => ?_, by rw [app_obj]; exact h1.2⟩
    rw [app_slot] at hk
    rw [app_obj]
    simp only [setAll]
    split at hk
    · simp only [AV.refs] at hk; rw [hk, St.obj_set, if_pos rfl]; simp
    · exact h1.1 i k hk

end
end Go.Sim
