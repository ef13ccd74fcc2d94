/- What is proved: parts of own slices, and what is appended to them; copying; what is not known is split. -/
import Derived.Test.YtlkpbnhinnhlfaaGreatZLFSimV
import Derived.Laws.CopyRow
import Derived.Laws.IdiomCopy

namespace Go.Sim
open Go.RowKit
section
variable {P : Program} {N : Value → Prop} {T : Tab} {σ : St}
/-- An own slice, or what it begins with. -/
def headOk (σ : St) (x : Operand) (id : Nat) (E : TypeId) (sz : Nat) (xs : List DV) : Prop :=
  (ev σ x = .oref id ∧ σ.obj id = some (.row E sz xs)) ∨ ∃ k XS, ev σ x = .vw id 0 k sz ∧ σ.obj id = some (.row E sz XS) ∧ k ≤ XS.length ∧ xs = XS.take k
theorem headOk.refs {x : Operand} {id : Nat} {E : TypeId} {sz : Nat} {xs : List DV} (h : headOk σ x id E sz xs) : (ev σ x).refs id := by
  rcases h with ⟨h, _⟩ | ⟨k, XS, h, _⟩ <;> rw [h] <;> simp [AV.refs]
theorem headOk.obj {x : Operand} {id : Nat} {E : TypeId} {sz : Nat} {xs : List DV} (h : headOk σ x id E sz xs) : σ.obj id ≠ none := by
  rcases h with ⟨_, h⟩ | ⟨k, XS, _, h, _⟩ <;> rw [h] <;> simp
theorem headOk.mono {σ' : St} {x : Operand} {id : Nat} {E : TypeId} {sz : Nat} {xs : List DV} (h : headOk σ x id E sz xs) (h1 : ev σ' x = ev σ x) (h2 : ∀ k, (ev σ x).refs k → σ'.obj k = σ.obj k) : headOk σ' x id E sz xs := by
  have := h2 id h.refs
  unfold headOk at h ⊢
  rw [h1, this]; exact h
/-- What is appended: as before, or a part of an own slice. -/
def srcW (σ : St) (x : Operand) (sz : Nat) (ys : List DV) : Prop :=
  srcOk σ x sz ys ∨ ∃ id l h E XS, ev σ x = .vw id l h sz ∧ σ.obj id = some (.row E sz XS) ∧ l ≤ h ∧ h ≤ XS.length ∧ ys = (XS.drop l).take (h - l)
theorem srcW.mono {σ' : St} {x : Operand} {sz : Nat} {ys : List DV} (h : srcW σ x sz ys) (h1 : ev σ' x = ev σ x) (h2 : ∀ k, (ev σ x).refs k → σ'.obj k = σ.obj k) : srcW σ' x sz ys := by
  rcases h with (⟨E', e⟩ | ⟨id', E', e, h⟩) | ⟨id, l, k, E, XS, e, h, h3⟩
  · exact .inl (.inl ⟨E', by rw [h1, e]⟩)
  · exact .inl (.inr ⟨id', E', by rw [h1, e], by rw [h2 id' (by rw [e]; simp [AV.refs])]; exact h⟩)
  · exact .inr ⟨id, l, k, E, XS, by rw [h1, e], by rw [h2 id (by rw [e]; simp [AV.refs])]; exact h, h3⟩
theorem head_rep {B : Nat → Nat → Prop} {F : Cx} {w0 w : World} {n : Nat} {a : Act} {g : Gh} (r : RelG B F w0 n σ a w g) {x : Operand} {id : Nat} {E : TypeId} {sz : Nat} {xs : List DV} (h : headOk σ x id E sz xs) :
    ∃ hv cells, a.eval x = hv ∧ w.ownsRow 0 E sz hv xs.length cells ∧ RepF w g.S xs (List.replicate xs.length sz) cells ∧
      ((¬ g.has id ∧ xs = [] ∧ hv = .slice none 0 0) ∨ (g.has id ∧ ∃ c, hv = .slice (some ⟨g.blk id, 0, none⟩) xs.length c ∧ xs.length ≤ c ∧ c ≤ maxLen)) := by
  have hev := ev_rep r x
  have hO := r.objs id
  rcases h with ⟨e, ho⟩ | ⟨k, XS, e, ho, hk, rfl⟩
  · rw [e] at hev
    rw [ho] at hO
    simp only [RepS] at hev
    obtain ⟨cells, c1, c2⟩ := rowOwns hO
    refine ⟨_, cells, hev, c1, c2, ?_⟩
    simp only [RepO] at hO
    rcases hO with h | ⟨m1, c, cur, m2, m3, m4, m5, m6, m7⟩
    · exact .inl h
    · exact .inr ⟨m1, c, m2, m5, m6⟩
  · rw [e] at hev
    rw [ho] at hO
    simp only [RepS] at hev
    simp only [RepO] at hO
    have hl : (XS.take k).length = k := by rw [List.length_take]; omega
    rw [hl]
    rcases hO with ⟨m1, rfl, m3⟩ | ⟨m1, c, cur, m2, m3, m4, m5, m6, m7⟩
    · have hk0 : k = 0 := by simpa using hk
      subst hk0
      have e2 : vwV (g.hdr id) 0 0 sz = .slice none 0 0 := by rw [m3]; rfl
      exact ⟨_, [], hev, by rw [e2]; exact World.ownsRow_nil w 0 E sz, by simp [RepF], .inl ⟨m1, rfl, e2⟩⟩
    · have e2 : vwV (g.hdr id) 0 k sz = .slice (some ⟨g.blk id, 0, none⟩) k c := by
        rw [m2]
        simp only [vwV, sliced, Nat.zero_mul, Nat.sub_zero]
        split <;> simp [addr_add]
      have hF := m7
      rw [← List.take_append_drop k XS] at hF
      obtain ⟨c1, c2, q1, q2, q3, q4, q5⟩ := RepF.splitR hF
      rw [hl] at q4
      have e3 : cur.toList.take (k * sz) = c1 := by
        have h1 := congrArg (List.take (k * sz)) q1
        rw [List.take_append_drop, List.take_left' q4, List.take_take, Nat.min_eq_left (Nat.mul_le_mul_right _ hk)] at h1
        exact h1
      refine ⟨_, c1, hev, ?_, by have := q2; rw [hl] at this; exact this, .inr ⟨m1, c, e2, by omega, m6⟩⟩
      rw [e2]
      exact ⟨q4, .inr ⟨_, c, cur, rfl, Nat.zero_le _, m3, by omega, m6, m4, e3⟩⟩
theorem srcW_rep {B : Nat → Nat → Prop} {F : Cx} {w0 w : World} {n : Nat} {a : Act} {g : Gh} (r : RelG B F w0 n σ a w g) {x : Operand} {sz : Nat} {ys : List DV} (h : srcW σ x sz ys) :
    ∃ ad c row, a.eval x = .slice ad ys.length c ∧ RepF w g.S ys (List.replicate ys.length sz) row ∧ (∀ b, ad = some b → ∀ j u, row[j]? = some u → w.cell? (b.add j) = some u) ∧ (ad = none → row = []) := by
  rcases h with h | ⟨id, l, k, E, XS, e, ho, h1, h2, rfl⟩
  · exact src_rep r h
  have hev := ev_rep r x
  have hO := r.objs id
  rw [e] at hev
  rw [ho] at hO
  simp only [RepS] at hev
  simp only [RepO] at hO
  have len : ((XS.drop l).take (k - l)).length = k - l := by simp; omega
  have len0 : (XS.take l).length = l := by simp; omega
  rcases hO with ⟨m1, rfl, m3⟩ | ⟨m1, c, cur, m2, m3, m4, m5, m6, m7⟩
  · have hk0 : k = 0 := by simpa using h2
    have hl0 : l = 0 := by omega
    subst hk0 hl0
    exact ⟨none, 0, [], by rw [hev, m3]; rfl, by simp [RepF], by simp, by simp⟩
  · have hF := m7
    have hx : XS = XS.take l ++ ((XS.drop l).take (k - l) ++ (XS.drop l).drop (k - l)) := by rw [List.take_append_drop, List.take_append_drop]
    rw [hx] at hF
    obtain ⟨c1, c2, e1, k1, k2, k3, k4⟩ := RepF.splitR hF
    obtain ⟨d1, d2, e2, n1, n2, n3, n4⟩ := RepF.splitR k2
    rw [← hx] at e1
    refine ⟨if c = l then some ⟨g.blk id, 0, none⟩ else (some ⟨g.blk id, 0, none⟩ : Option Addr).map (·.add (l * sz)), c - l, d1, ?_, n1, ?_, ?_⟩
    · rw [hev, m2, len]; rfl
    · intro b hb j u hj
      by_cases hlk : l = k
      · have : d1 = [] := List.eq_nil_of_length_eq_zero (by rw [n3, len, hlk]; simp)
        rw [this] at hj; simp at hj
      · rw [if_neg (by omega)] at hb
        simp only [Option.map_some, Option.some.injEq] at hb
        subst hb
        have hj' : cur.toList[l * sz + j]? = some u := by
          have h5 : (cur.toList.take (XS.length * sz))[l * sz + j]? = some u := by
            rw [e1, e2, List.getElem?_append_right (by rw [k3, len0]; omega), k3, len0, Nat.add_sub_cancel_left, List.getElem?_append_left (List.getElem?_eq_some_iff.1 hj).1]
            exact hj
          rw [List.getElem?_take] at h5
          split at h5
          · exact h5
          · cases h5
        rw [addr_add, addr_add, Nat.zero_add, cell_of_row w _ _ cur E (0, 0) m3]
        simpa using hj'
    · intro hn
      exfalso
      split at hn <;> simp at hn
/-- A part of an own slice. -/
theorem Step.view (hT : TabOk P T) {c : Bool} {o : Oper} {t E E' : TypeId} {te : TE} {x : Operand} {lo hi : Option Operand} {l h id : Nat} {xs : List DV} (ho : o.op = .slice t x lo hi none) (hs : slE T t = some (E, te))
    (hx : ev σ x = .oref id) (hob : σ.obj id = some (.row E' te.size xs)) (hlo : loOk σ lo l) (hhi : hiOk σ xs.length hi h) (h1 : l ≤ h) (h2 : h ≤ xs.length) : Step P N c σ o ⟨.vw id l h te.size, []⟩ := by
  have hmx : x ∈ o.op.operands := by simp [ho, Op.operands]
  have hlk : looks o = true := by simp [looks, ho]
  have hxi : (ev σ x).refs id := by rw [hx]; simp [AV.refs]
  refine Step.value (fun σ' hA B F w0 n a w g rr => ?_) (fun σ' hA ok k hk => ?_) (hn := fun y hy k hk => by
      simp only [AV.refs] at hk
      subst hk
      rw [ho] at hy
      cases x <;> simp [carry] at hy
      subst hy; exact hxi) (hmk := fun hy => by rw [ho] at hy; simp [makes] at hy)
  · have hev := ev_rep rr x
    rw [hA.1 x hmx, hx] at hev
    simp only [RepS] at hev
    have hO := rr.objs id
    rw [hA.2.2 hlk x hmx id hxi, hob] at hO
    obtain ⟨ad, cc, e1, hl⟩ : ∃ ad cc, g.hdr id = .slice ad xs.length cc ∧ xs.length ≤ cc := by
      simp only [RepO] at hO
      rcases hO with ⟨m1, rfl, m3⟩ | ⟨m1, c, cur, m2, m3, m4, m5, m6, m7⟩
      · exact ⟨none, 0, m3, Nat.le_refl _⟩
      · exact ⟨_, c, m2, m5⟩
    rw [e1] at hev
    obtain ⟨hu, hE, _⟩ := slE_ok hT hs
    have hsz := run_sizeOf hE w
    have hel : P.elem t = E := by simp [Program.elem, hu]
    have hu' : P.underlying t = some (.slice (P.elem t)) := by rw [hel]; exact hu
    refine ⟨sliced ad l h cc te.size, ?_, by simp only [RepS]; rw [e1]; rfl⟩
    have evl : ∀ y m, lo = some y → (∃ k, ev σ y = .dat (.v (.int k m))) → ∃ k, a.eval y = .int k m := fun y m hy ⟨k, hk⟩ => ⟨k, raw_eval (ev_rep rr y) (by rw [hA.1 y (by simp [ho, hy, Op.operands]), hk]; rfl)⟩
    have evh : ∀ y m, hi = some y → (∃ k, ev σ y = .dat (.v (.int k m))) → ∃ k, a.eval y = .int k m := fun y m hy ⟨k, hk⟩ => ⟨k, raw_eval (ev_rep rr y) (by rw [hA.1 y (by simp [ho, hy, Op.operands]), hk]; rfl)⟩
    have hsl := run_sliceAt_slice (P := P) w t (.slice ad xs.length cc) (lo.map a.eval) (hi.map a.eval) none hu'
    have key : (Instr.slice t (.slice ad xs.length cc) (lo.map a.eval) (hi.map a.eval) none).run P w = .ok (sliced ad l h cc te.size) w := by
      cases lo with
      | none =>
        simp only [loOk] at hlo
        subst hlo
        cases hi with
        | none =>
          simp only [hiOk] at hhi
          subst hhi
          simp only [Option.map_none]; rw [run_slice_all w t ad _ cc hu', hel, hsz]; rfl
        | some y =>
          obtain ⟨k, hk⟩ := evh y h rfl hhi
          simp only [Option.map_none, Option.map_some]; rw [hk, run_slice_h w t ad _ cc hu' k _ (by omega) (by omega), hel, hsz]; rfl
      | some z =>
        obtain ⟨k, hk⟩ := evl z l rfl hlo
        cases hi with
        | none =>
          simp only [hiOk] at hhi
          subst hhi
          simp only [Option.map_none, Option.map_some]; rw [hk, run_slice_l w t ad _ cc hu' k _ (by omega) (by omega), hel, hsz]; rfl
        | some y =>
          obtain ⟨k', hk'⟩ := evh y h rfl hhi
          simp only [Option.map_some]; rw [hk, hk', run_slice_lh w t ad _ cc hu' k k' _ _ (by omega) (by omega) (by omega), hel, hsz]; rfl
    rw [← hsl] at key
    simp only [execOp, ho, hev, Option.map_none, Sem.run_bind, key, Result.andThen_ok, Sem.run_pure]
  · simp only [AV.refs] at hk
    rw [hk, hA.2.2 hlk x hmx id hxi, hob]; simp
theorem Step.appendV (hT : TabOk P T) {o : Oper} {d id : Nat} {t E : TypeId} {te : TE} {x y : Operand} {xs ys : List DV}
    (ho : o.op = .call { callee := .builtin .append, args := #[x, y], argTypes := #[t, t] }) (hd : o.dst = some d) (hn : σ.obj d = none) (hs : slE T t = some (E, te)) (hsz : 0 < te.size)
    (hh : headOk σ x id E te.size xs) (hy : srcW σ y te.size ys) (h63 : xs.length + ys.length ≤ maxLen) (hby : (xs.length + ys.length) * te.bytes ≤ 140737488355328) (hlid : id < 1000000) :
    Step P N true σ o ⟨.oref d, [(id, .gone), (d, .row E te.size (xs ++ ys))]⟩ where
  ok := by
    rintro σ' hA B F w0 n a w hdn ⟨g, r⟩ Q _
    have hmx : x ∈ o.op.operands := by simp [ho, Op.operands, Call.operands]
    have hmy : y ∈ o.op.operands := by simp [ho, Op.operands, Call.operands]
    have hlk : looks o = true := by simp [looks, ho]
    have hn' := hA.2.1 d hd hn
    have hh' : headOk σ' x id E te.size xs := hh.mono (hA.1 x hmx) (hA.2.2 hlk x hmx)
    have hy' : srcW σ' y te.size ys := hy.mono (hA.1 y hmy) (hA.2.2 hlk y hmy)
    obtain ⟨hv, cells, hevx, hown, hcells, hhdr⟩ := head_rep r hh'
    obtain ⟨ad, c, row, e1, h1, h2, h3⟩ := srcW_rep r hy'
    obtain ⟨hu, hE, _⟩ := slE_ok hT hs
    obtain ⟨i, dd, z, q1, q2, q3, q4, q5, q6, q7, q8, q9, q10⟩ := hE
    have hzs : z.cells.size = te.size := by
      have := RepD.len (RepD.of_flat (w := w) (S := g.S) _ _ q7)
      simpa [q10] using this
    have hrowlen : row.length = ys.length * te.size := by have := (RepF.length h1).1; simpa using this
    have hrow1 := RepF.one ys _ row h1
    have hsmall : xs.length + ys.length ≤ 9223372036854775807 := by simp only [maxLen] at h63; omega
    have hlen2 : (cells ++ row).length = (xs.length + ys.length) * te.size := by rw [List.length_append, hown.1, hrowlen, Nat.add_mul]
    have grown : ∀ old, old < xs.length + ys.length → ∀ rw' : Option Nat,
        (w.drew.alloc (.cells (cells.toArray ++ row.toArray ++ Builtin.zeroCells z.cells (grownCap w (xs.length + ys.length) old E - (xs.length + ys.length))) E)).ownsRow 0 E te.size
          (.slice (some ⟨w.heap.size, 0, none⟩) (xs.length + ys.length) (grownCap w (xs.length + ys.length) old E)) (xs.length + ys.length) (cells ++ row) ∧
        w.grownBy (w.drew.alloc (.cells (cells.toArray ++ row.toArray ++ Builtin.zeroCells z.cells (grownCap w (xs.length + ys.length) old E - (xs.length + ys.length))) E)) rw' := by
      intro old hold rw'
      have hge := grownCap_ge w (xs.length + ys.length) old E
      have hcm := grownCap_le_maxLen w (xs.length + ys.length) old E h63
      refine ⟨⟨hlen2, .inr ⟨w.heap.size, _, _, rfl, Nat.zero_le _, heap_alloc_new w.drew _, hge, hcm, ?_, ?_⟩⟩, ⟨rfl, rfl, rfl, by simp, fun k hk _ => heap_alloc_old w.drew _ k hk⟩⟩
      · simp only [Array.size_append, List.size_toArray, size_zeroCells, hzs, hown.1, hrowlen, ← Nat.add_mul]
        congr 1
        omega
      · simp only [Array.toList_append, List.append_assoc]
        rw [← List.append_assoc, ← hlen2]
        exact List.take_left
    have key : ∃ v' w', (Builtin.append_ #[t, t] o.type #[hv, .slice ad ys.length c]).run P w = .ok v' w' ∧ w'.ownsRow 0 E te.size v' (xs.length + ys.length) (cells ++ row) ∧ w.grownBy w' (hv).ownBlock ∧
        (∀ k, v'.ownBlock = some k → (w.heap.size ≤ k ∧ k < w'.heap.size) ∨ (g.has id ∧ k = g.blk id)) := by
      rcases Nat.eq_zero_or_pos ys.length with hl | hl
      · have hr : row = [] := List.eq_nil_of_length_eq_zero (by rw [hrowlen, hl]; simp)
        subst hr
        refine ⟨hv, w, ?_, by rw [hl]; simpa using hown, ⟨rfl, rfl, rfl, Nat.le_refl _, fun _ _ _ => rfl⟩, fun k hk => ?_⟩
        · have hf : ∀ q : Nat, (Builtin.firstCells q 0 (.slice ad 0 c)).run P w = .ok #[] w := by
            intro q
            cases ad with
            | none => simp [Builtin.firstCells]
            | some b => simpa using run_firstCells_some (P := P) w q 0 b 0 c [] (by simp) (by simp)
          rw [hl]
          rcases hown.2 with ⟨e, e'⟩ | ⟨bb, cap, cur, e, _, _, hnc, _⟩
          · rw [e]; simp [Builtin.append_, run_underlying hu, sizeOf, typeInfo, q1, Builtin.lenOf, hf]
          · rw [e]; simp [Builtin.append_, run_underlying hu, sizeOf, typeInfo, q1, Builtin.lenOf, hf, hnc, storeCells]
        · rcases hhdr with ⟨m1, m2, m3⟩ | ⟨m1, c', m2, _⟩
          · rw [m3] at hk; simp [Value.ownBlock] at hk
          · rw [m2] at hk; simp [Value.ownBlock] at hk; exact .inr ⟨m1, hk.symm⟩
      · cases ad with
        | none =>
          have := h3 rfl
          rw [this] at hrowlen
          simp only [List.length_nil] at hrowlen
          have := Nat.mul_pos hl hsz
          omega
        | some b =>
          rcases hhdr with ⟨m1, m2, m3⟩ | ⟨m1, c', m2, m5, m6⟩
          · have hc0 : cells = [] := List.eq_nil_of_length_eq_zero (by rw [hown.1, m2]; simp)
            have hr := run_append_nil (P := P) w t o.type E i z hu q1 q6 b ys.length c row (by rw [q4]; exact hrowlen) (h2 b rfl) hl (by omega) (by rw [q5]; have := hby; rw [m2] at this; simp at this; omega)
            have hgr := grown 0 (by omega) (hv).ownBlock
            have hxl : xs.length = 0 := by rw [m2]; rfl
            simp only [hc0, hxl, Nat.zero_add, List.nil_append, Array.empty_append] at hgr ⊢
            exact ⟨_, _, by rw [m3]; exact hr, hgr.1, hgr.2, fun k hk => by simp [Value.ownBlock] at hk; subst hk; exact .inl ⟨Nat.le_refl _, by simp⟩⟩
          · by_cases hroom : xs.length + ys.length ≤ c'
            · have hown' := hown
              rw [m2] at hown'
              obtain ⟨w', a1, a2, a3⟩ := run_append_fits (P := P) w 0 t o.type E i te.size hu q1 q4 (g.blk id) xs.length c' cells hown' b ys.length c row hrowlen (h2 b rfl) hrow1 hroom
              exact ⟨_, w', by rw [m2]; exact a1, a2, by rw [m2]; exact a3, fun k hk => by simp [Value.ownBlock] at hk; exact .inr ⟨m1, hk.symm⟩⟩
            · have holds : ∀ j u, cells[j]? = some u → w.cell? ((⟨g.blk id, 0, none⟩ : Addr).add j) = some u := hown.cells (g := g.blk id) (by rw [m2]; rfl)
              have hr := run_append_grow (P := P) w t o.type E i z hu q1 q6 ⟨g.blk id, 0, none⟩ xs.length c' cells (by rw [q4]; exact hown.1) holds b ys.length c row (by rw [q4]; exact hrowlen) (h2 b rfl) (by omega) (by omega) (by rw [q5]; exact growslice_fits (by omega) hby)
              have hgr := grown c' (by omega) (hv).ownBlock
              exact ⟨_, _, by rw [m2]; exact hr, hgr.1, hgr.2, fun k hk => by simp [Value.ownBlock] at hk; subst hk; exact .inl ⟨Nat.le_refl _, by simp⟩⟩
    obtain ⟨v', w', k1, k2, k3, k4⟩ := key
    unfold Oper.wp
    have hrun : (execOp a.eval o).run P w = .ok (.value v') w' := by
      simp [execOp, ho, resolve, invoke, builtin, hevx, e1, k1]
    rw [hrun, Oper.upon_value, hd]
    have hnewF := RepF.replicate_append hcells h1
    have hkeep : ∀ k, k < w.heap.size → (g.has id → k ≠ g.blk id) → w'.heap[k]? = w.heap[k]? := by
      intro k hk hne
      refine k3.block k hk (fun e => ?_)
      rcases hhdr with ⟨m1, m2, m3⟩ | ⟨m1, c', m2, _⟩
      · rw [m3] at e; simp [Value.ownBlock] at e
      · rw [m2] at e; simp [Value.ownBlock] at e; exact hne m1 e
    have hv1 : v'.oneCell' = true := by
      rcases k2.2 with ⟨rfl, _⟩ | ⟨bb, cap, cur, rfl, _⟩ <;> rfl
    have hnotnil : ∀ bb cap, v' = .slice (some ⟨bb, 0, none⟩) (xs.length + ys.length) cap → (w.heap.size ≤ bb ∧ bb < w'.heap.size) ∨ (g.has id ∧ bb = g.blk id) := fun bb cap e => k4 bb (by rw [e]; rfl)
    rcases k2.2 with ⟨e, e'⟩ | ⟨bb, cap, cur, e, _, hbb, hnc, hcm, hcs, htake⟩
    · have hx0 : xs = [] := List.eq_nil_of_length_eq_zero (by omega)
      have hy0 : ys = [] := List.eq_nil_of_length_eq_zero (by omega)
      have r2 := r.reown (Nat.lt_of_lt_of_le (hdn d hd) r.nlt) hlid hh'.obj hn' k3.os k3.tape k3.output k3.size hkeep 0 v' hv1 False (fun h => h.elim) E te.size (xs ++ ys) (.inl ⟨fun h => h, by rw [hx0, hy0]; rfl, e⟩)
      exact ⟨_, r2.put (x := .oref d) (by simp [RepS, upd_same]) (fun k hk => by simp only [AV.refs] at hk; rw [hk, St.obj_set, if_pos rfl]; simp) (hdn d hd)⟩
    · have r2 := r.reown (Nat.lt_of_lt_of_le (hdn d hd) r.nlt) hlid hh'.obj hn' k3.os k3.tape k3.output k3.size hkeep bb v' hv1 True (fun _ => hnotnil bb cap e) E te.size (xs ++ ys) (.inr ⟨trivial, cap, cur, by rw [List.length_append]; exact e, hbb, hcs, by rw [List.length_append]; exact hnc, hcm, by rw [List.length_append, htake, ← List.length_append]; exact hnewF⟩)
      exact ⟨_, r2.put (x := .oref d) (by simp [RepS, upd_same]) (fun k hk => by simp only [AV.refs] at hk; rw [hk, St.obj_set, if_pos rfl]; simp) (hdn d hd)⟩
  objs := fun q hq => by
    simp only [List.mem_cons, List.not_mem_nil, or_false] at hq
    rcases hq with rfl | rfl
    · exact .inr ⟨rfl, by simp [looks, ho], x, by simp [wr, ho], hh.refs⟩
    · exact .inl ⟨hd, hn⟩
  okk := fun σ' hA ok => by
    have h1 := Ok_set (Ok_set ok (d := id) (o := .gone) (fun _ _ _ e => by cases e)) (d := d) (o := .row E te.size (xs ++ ys)) (fun _ _ _ e => by cases e)
    rw [hd]
    refine ⟨fun i k hk => ?_, ok_tail (app_obj _ _ _) h1.2⟩
    rw [app_slot] at hk
    rw [app_obj]
    simp only [setAll]
    split at hk
    · simp only [AV.refs] at hk; rw [hk, St.obj_set, if_pos rfl]; simp
    · exact h1.1 i k hk
  near := fun y h => by rw [ho] at h; simp [carry] at h
  made := fun _ k hk => by simp only [AV.refs] at hk; rw [hk]; exact hd
theorem St.set_same {σ : St} {d : Nat} {ob : Obj} (h : σ.obj d = some ob) : σ.set d ob = σ := by
  unfold St.set
  cases σ with
  | mk s f =>
    congr 1
    funext i
    simp only at h ⊢
    split
    · rename_i e; rw [Nat.eq_of_beq_eq_true e]; exact h.symm
    · rfl
/-- As many as there are are copied to an own slice. -/
theorem Step.copy (hT : TabOk P T) {o : Oper} {d id : Nat} {t t' E E' : TypeId} {te : TE} {x y : Operand} {xs ys : List DV}
    (ho : o.op = .call { callee := .builtin .copy, args := #[x, y], argTypes := #[t, t'] }) (hd : o.dst = some d) (hs : slE T t = some (E, te)) (h1 : te.size = 1)
    (hx : ev σ x = .oref id) (hob : σ.obj id = some (.row E' 1 xs)) (hy : srcOk σ y 1 ys) (hl : ys.length = xs.length) :
    Step P N true σ o ⟨.dat (.v (.int .i64 (ys.length : Int))), [(id, .row E' 1 ys)]⟩ where
  ok := by
    rintro σ' hA B F w0 n a w hdn ⟨g, r⟩ Q _
    have hmx : x ∈ o.op.operands := by simp [ho, Op.operands, Call.operands]
    have hmy : y ∈ o.op.operands := by simp [ho, Op.operands, Call.operands]
    have hlk : looks o = true := by simp [looks, ho]
    have hob' : σ'.obj id = some (.row E' 1 xs) := by rw [hA.2.2 hlk x hmx id (by rw [hx]; simp [AV.refs])]; exact hob
    have hy' : srcW σ' y 1 ys := srcW.mono (.inl hy) (hA.1 y hmy) (hA.2.2 hlk y hmy)
    have hevx := ev_rep r x
    rw [hA.1 x hmx, hx] at hevx
    simp only [RepS] at hevx
    obtain ⟨ad, c, row, e1, k1, k2, k3⟩ := srcW_rep r hy'
    have hrl : row.length = ys.length := by have := (RepF.length k1).1; simpa using this
    have hO := r.objs id
    rw [hob'] at hO
    obtain ⟨hu, hE, _⟩ := slE_ok hT hs
    obtain ⟨i, dd, z, q1, q2, q3, q4, q5, q6, q7, q8, q9, q10⟩ := hE
    have hsz : (P.info? E).map (·.size) = some 1 := by rw [q1]; simp [q4, h1]
    have hid : σ'.obj id ≠ none := by rw [hob']; simp
    have fin : ∀ w', (Builtin.copy_ #[t, t'] o.type #[g.hdr id, .slice ad ys.length c]).run P w = .ok (goInt ys.length) w' → RelG B F w0 n (σ'.set id (.row E' 1 ys)) a w' g →
        o.wp P a w (fun a' w' => Rel B F w0 n (Eff.app ⟨.dat (.v (.int .i64 (ys.length : Int))), [(id, .row E' 1 ys)]⟩ o.dst σ') a' w') Q := fun w' hrun r2 => by
      unfold Oper.wp
      have hrun2 : (execOp a.eval o).run P w = .ok (.value (goInt ys.length)) w' := by
        simp [execOp, ho, resolve, invoke, builtin, hevx, e1, hrun]
      rw [hrun2, Oper.upon_value, hd]
      exact ⟨g, r2.put (x := .dat (.v (.int .i64 (ys.length : Int)))) (by simp [RepS, RepV, RepD, goInt, Value.oneCell']) (fun k hk => by simp [AV.refs] at hk) (hdn d hd)⟩
    simp only [RepO] at hO
    rcases Nat.eq_zero_or_pos ys.length with h0 | h0
    · have hx0 : xs = [] := List.eq_nil_of_length_eq_zero (by omega)
      have hy0 : ys = [] := List.eq_nil_of_length_eq_zero h0
      subst hx0 hy0
      refine fin w ?_ (by rw [St.set_same hob']; exact r)
      rcases hO with ⟨m1, m2, m3⟩ | ⟨m1, cc, cur, m2, m3, m4, m5, m6, m7⟩
      · rw [m3]; exact run_copy_none w t t' o.type E none ad 0 0 0 c hu hsz rfl
      · rw [m2]; exact run_copy_none w t t' o.type E _ ad 0 cc 0 c hu hsz rfl
    · rcases hO with ⟨m1, m2, m3⟩ | ⟨m1, cc, cur, m2, m3, m4, m5, m6, m7⟩
      · have : ys.length = 0 := by rw [hl, m2]; rfl
        omega
      cases ad with
      | none => have := k3 rfl; rw [this] at hrl; simp at hrl; omega
      | some b =>
        have hone := RepF.one ys _ row k1
        have hrun := run_copy_row (P := P) w t t' o.type E (g.blk id) 0 xs.length cc b ys.length c cur E' row hu hsz m3 (by rw [hrl, ← hl]; exact (Nat.min_self _).symm) (k2 b rfl) (by rw [Nat.zero_add, hrl, hl, m4]; omega) hone
        rw [hrl] at hrun
        have hS := (r.own id m1).1
        refine fin _ (by rw [m2]; exact hrun) (r.rewrite m1 hid _ (.row E' 1 ys) ?_ (fun T sz x hx => by cases hx))
        have hcl : cur.toList.length = cc := by rw [Array.length_toList, m4, Nat.mul_one]
        simp only [RepO]
        refine .inr ⟨m1, cc, _, by rw [m2, hl], setRow_heap w _ cur _ E' (0, 0) m3, ?_, by omega, m6, ?_⟩
        · simp only [List.size_toArray, List.length_append, List.length_take, List.length_drop, hcl, hrl, Nat.mul_one]; omega
        · have e3 : (cur.toList.take 0 ++ row ++ cur.toList.drop (0 + ys.length)).take (ys.length * 1) = row := by
            rw [List.take_zero, List.nil_append, Nat.mul_one, List.take_left' hrl]
          show RepF _ _ _ _ ((cur.toList.take 0 ++ row ++ cur.toList.drop (0 + ys.length)).take (ys.length * 1))
          rw [e3]
          exact RepF.frame (fun _ h => h) (fun k hk _ => setRow_other w (g.blk id) k _ (fun e => hS (by rw [← e]; exact hk))) _ _ _ k1
  objs := fun q hq => by
    simp only [List.mem_singleton] at hq
    subst hq
    exact .inr ⟨rfl, by simp [looks, ho], x, by simp [wr, ho], by rw [hx]; simp [AV.refs]⟩
  okk := fun σ' hA ok => by
    exact Ok_dat (Ok_set ok (d := id) (o := .row E' 1 ys) (fun _ _ _ e => by cases e)) o.dst _
  near := fun y h => by rw [ho] at h; simp [carry] at h
end
section
variable {P : Program} {N : Value → Prop} {T : Tab} {ops : Array Oper} {cf : Oper → Bool} {K : AExit → St → Prop} {o : Oper} {rest : List Oper} {L : List (Nat × AV)} {O : List (Nat × Obj)}
theorem AOps.view (hT : TabOk P T) {d id : Nat} {t E E' : TypeId} {te : TE} {x : Operand} {lo hi : Option Operand} {l h sz : Nat} {xs : List DV} (ho : o.op = .slice t x lo hi none) (hd : o.dst = some d) (hg : gOn ops L o = true) (hs : slE T t = some (E, te))
    (hx : ev (mkSt L O) x = .oref id) (hob : lookO O id = some (.row E' sz xs)) (hsz : Nat.beq sz te.size = true) (hlo : loOk (mkSt L O) lo l) (hhi : hiOk (mkSt L O) xs.length hi h) (h1 : l ≤ h) (h2 : h ≤ xs.length)
    (k : AOps P ops cf K rest (mkSt ((d, .vw id l h sz) :: L) O)) : AOps P ops cf K (o :: rest) (mkSt L O) := by
  have e := Nat.eq_of_beq_eq_true hsz
  subst e
  exact AOps.v hd hg (Step.view hT ho hs hx hob hlo hhi h1 h2) k
theorem AOps.appendV (hT : TabOk P T) {d id : Nat} {t E E' : TypeId} {te : TE} {x y : Operand} {sz : Nat} {xs ys : List DV}
    (ho : o.op = .call { callee := .builtin .append, args := #[x, y], argTypes := #[t, t] }) (hcf : cf o = true) (hd : o.dst = some d) (hg : gOn ops L o = true) (hn : lookO O d = none) (hs : slE T t = some (E, te)) (hp : Nat.ble 1 te.size = true)
    (hh : headOk (mkSt L O) x id E' sz xs) (hE : Nat.beq E' E = true) (hsz : Nat.beq sz te.size = true) (hy : srcW (mkSt L O) y sz ys) (h63 : xs.length + ys.length ≤ maxLen) (hby : (xs.length + ys.length) * te.bytes ≤ 140737488355328) {zs : List DV} (ez : xs ++ ys = zs)
    (k : AOps P ops cf K rest (mkSt ((d, .oref d) :: L) ((d, .row E sz zs) :: (id, .gone) :: O))) (hlid : id < 1000000 := by decide) : AOps P ops cf K (o :: rest) (mkSt L O) := by
  subst ez
  have e := Nat.eq_of_beq_eq_true hsz
  have e' := Nat.eq_of_beq_eq_true hE
  subst e e'
  refine AOps.eff hg (e := ⟨.oref d, [(id, .gone), (d, .row E' te.size (xs ++ ys))]⟩) ?_ (by rw [hd]; exact k)
  rw [hcf]
  exact Step.appendV hT ho hd hn hs (Nat.le_of_ble_eq_true hp) hh hy h63 hby hlid
theorem AOps.copy (hT : TabOk P T) {d id : Nat} {t t' E E' : TypeId} {te : TE} {x y : Operand} {xs ys : List DV}
    (ho : o.op = .call { callee := .builtin .copy, args := #[x, y], argTypes := #[t, t'] }) (hcf : cf o = true) (hd : o.dst = some d) (hg : gOn ops L o = true) (hs : slE T t = some (E, te)) (h1 : Nat.beq te.size 1 = true)
    (hx : ev (mkSt L O) x = .oref id) (hob : lookO O id = some (.row E' 1 xs)) (hy : srcOk (mkSt L O) y 1 ys) (hl : ys.length = xs.length) {n : Int} (hn : (ys.length : Int) = n)
    (k : AOps P ops cf K rest (mkSt ((d, .dat (.v (.int .i64 n))) :: L) ((id, .row E' 1 ys) :: O))) : AOps P ops cf K (o :: rest) (mkSt L O) := by
  subst hn
  refine AOps.eff hg (e := ⟨.dat (.v (.int .i64 (ys.length : Int))), [(id, .row E' 1 ys)]⟩) ?_ (by rw [hd]; exact k)
  rw [hcf]
  exact Step.copy hT ho hd hs (Nat.eq_of_beq_eq_true h1) hx hob hy hl
end
/-! ### What is not known is split, forgotten, found -/
/-- Two lists are of one length, and .. -/
def SameL {α β : Type} (xs : List α) (ys : List β) (k : Prop) : Prop := ys.length = xs.length ∧ k
section
variable {P : Program} {B : Nat → Nat → Prop} {n : Nat} {ops : Array Oper} {Q : AExit → St → Prop} {L : List (Nat × AV)} {O : List (Nat × Obj)}
theorem KN.both {l : List Oper} (i : Nat) (hx : look L i = .dat (.any anyB)) {X Y : Prop} (h : Both X Y) (h1 : X → NOps P B n ops Q l (mkSt ((i, .dat (.v (.bool true))) :: L) O)) (h2 : Y → NOps P B n ops Q l (mkSt ((i, .dat (.v (.bool false))) :: L) O)) :
    KN P B n ops Q l .normal (mkSt L O) := by
  rintro F w0 a w ⟨g, r⟩
  have hs := r.slots i
  have hs' : RepS w g (.dat (.any anyB)) (a.tmps.getD i undef) := by rw [← hx]; exact hs
  simp only [RepS, RepV, RepD] at hs'
  obtain ⟨v, e, _, b, rfl⟩ := hs'
  simp only [List.cons.injEq, and_true] at e
  cases b with
  | true => exact h1 h.1 F w0 a w ⟨g, r.slotDat (d := i) (y := .v (.bool true)) (by simp only [RepS, RepV, RepD]; rw [e]; exact ⟨rfl, rfl⟩)⟩
  | false => exact h2 h.2 F w0 a w ⟨g, r.slotDat (d := i) (y := .v (.bool false)) (by simp only [RepS, RepV, RepD]; rw [e]; exact ⟨rfl, rfl⟩)⟩
/-- Less is told of a slot. -/
theorem AWp.fog {c : Code} (i : Nat) {x y : DV} (hx : look L i = .dat x) (hw : ∀ (w : World) (S : Nat → Prop) (u : Value), RepV w S x u → RepV w S y u) (h : AWp P B n c (mkSt ((i, .dat y) :: L) O) Q) : AWp P B n c (mkSt L O) Q := by
  rintro F w0 a w ⟨g, r⟩
  have hs := r.slots i
  have hs' : RepS w g (.dat x) (a.tmps.getD i undef) := by rw [← hx]; exact hs
  exact h F w0 a w ⟨g, r.slotDat (d := i) (y := y) (hw w g.S _ hs')⟩
/-- A matrix of floats as one of which nothing but its form is known. -/
def fogM (r : List (List Nat)) : List (List Unit) := r.map (List.map fun _ => ())
theorem fogM_len (r : List (List Nat)) : (fogM r).map List.length = r.map List.length := by
  unfold fogM
  rw [List.map_map]
  exact List.map_congr_left fun l _ => by simp
theorem fog_rep {T E : TypeId} {r : List (List Nat)} (hb : ∀ l ∈ r, ∀ b ∈ l, b < 18446744073709551616) : ∀ (w : World) (S : Nat → Prop) (u : Value), RepV w S (.sl T 1 (r.map (eSl E 1 (eFlt .f64)))) u → RepV w S (.sl T 1 ((fogM r).map (eSl E 1 eBl))) u := fun w S u h => by
  have hl := fogM_len r
  have hlen : (fogM r).length = r.length := by simpa using congrArg List.length hl
  simp only [RepV, RepD, List.length_map] at h ⊢
  obtain ⟨a, c, row, k1, k2, k3, k4⟩ := h
  exact ⟨a, c, row, by rw [hlen]; exact k1, by rw [hlen]; exact k2, by rw [hlen]; exact blind_close (T := T) r (fogM r) hl hb _ _ k3, k4⟩
/-- Words that may stand for floats. -/
def FltM (r : List (List Nat)) : Prop := ∀ l ∈ r, ∀ b ∈ l, b < 18446744073709551616
/-- What is known of a matrix is forgotten. -/
def Fog (r : List (List Nat)) (k : List (List Unit) → Prop) : Prop := FltM r ∧ ∀ u, u = fogM r → k u
theorem AWp.fogM {c : Code} {T E : TypeId} (i : Nat) {r : List (List Nat)} (hx : look L i = .dat (.sl T 1 (r.map (eSl E 1 (eFlt .f64))))) {k : List (List Unit) → Prop} (hk : Fog r k) (h : ∀ u, k u → AWp P B n c (mkSt ((i, .dat (.sl T 1 (u.map (eSl E 1 eBl)))) :: L) O) Q) : AWp P B n c (mkSt L O) Q :=
  AWp.fog i hx (fog_rep hk.1) (h _ (hk.2 _ rfl))
/-- What was forgotten is one thing or another. -/
def Find (u : List (List Unit)) (k : List (List Nat) → Prop) : Prop := ∀ r, r.map List.length = u.map List.length → FltM r → k r
theorem RepIn.open {w : World} {S b : Nat → Prop} {E : TypeId} {u : List Unit} {v : Value} (h : RepIn w S b E 1 (u.map eBl) v) : ∃ l : List Nat, l.length = u.length ∧ (∀ x ∈ l, x < 18446744073709551616) ∧ RepIn w S b E 1 (l.map (eFlt .f64)) v := by
  rcases h with ⟨h1, h2⟩ | ⟨b0, c, cur, h1, h2, h3, h4, h5, h6, h7⟩
  · have : u = [] := by simpa using h1
    subst this
    exact ⟨[], rfl, (fun _ h => (List.not_mem_nil h).elim), .inl ⟨rfl, h2⟩⟩
  · obtain ⟨l, k1, k2, k3⟩ := openF u _ _ h7
    have hlen : (l.map (eFlt .f64)).length = (u.map eBl).length := by simpa using k1
    exact ⟨l, k1, k2, .inr ⟨b0, c, cur, h1, by rw [hlen]; exact h2, h3, h4, by rw [hlen]; exact h5, h6, by rw [hlen]; exact k3⟩⟩
theorem pick_list {α : Type} : ∀ (n : Nat) (p : Nat → α → Prop), (∀ j, j < n → ∃ l, p j l) → ∃ r : List α, r.length = n ∧ ∀ (j : Nat) (l : α), r[j]? = some l → p j l
  | 0, _, _ => ⟨[], rfl, fun j l h => by simp at h⟩
  | n + 1, p, h => by
    obtain ⟨x, hx⟩ := h 0 (by omega)
    obtain ⟨r, h1, h2⟩ := pick_list n (fun j => p (j + 1)) (fun j hj => h (j + 1) (by omega))
    refine ⟨x :: r, by simp [h1], fun j l hj => ?_⟩
    cases j with
    | zero => simp at hj; subst hj; exact hx
    | succ j => exact h2 j l (by simpa using hj)
theorem AWp.find {c : Code} {T E : TypeId} (d : Nat) {u : List (List Unit)} (ho : lookO O d = some (.rr T E 1 (u.map (List.map eBl)) [])) {k : List (List Nat) → Prop} (hk : Find u k) (h : ∀ r, k r → AWp P B n c (mkSt L ((d, .rr T E 1 (r.map (List.map (eFlt .f64))) []) :: O)) Q) : AWp P B n c (mkSt L O) Q := by
  rintro F w0 a w ⟨g, r0⟩
  have hO := r0.objs d
  have hO' : RepO w g d (some (.rr T E 1 (u.map (List.map eBl)) [])) := by rw [← ho]; exact hO
  simp only [RepO] at hO'
  obtain ⟨m1, cc, cur, m2, m3, m4, m5, m6, m7⟩ := hO'
  obtain ⟨r, r1, r2⟩ := pick_list u.length (fun j (l : List Nat) => ∃ us v, u[j]? = some us ∧ cur[j]? = some v ∧ l.length = us.length ∧ (∀ x ∈ l, x < 18446744073709551616) ∧ RepIn w g.S (g.sub d j) E 1 (l.map (eFlt .f64)) v) (fun j hj => by
    obtain ⟨v, v1, v2⟩ := m7 j (u[j].map eBl) (by rw [List.getElem?_map, List.getElem?_eq_getElem hj]; rfl)
    obtain ⟨l, k1, k2, k3⟩ := RepIn.open v2
    exact ⟨l, u[j], v, List.getElem?_eq_getElem hj, v1, k1, k2, k3⟩)
  have hshape : r.map List.length = u.map List.length := by
    refine List.ext_getElem? fun j => ?_
    rw [List.getElem?_map, List.getElem?_map]
    by_cases hj : j < r.length
    · obtain ⟨us, v, e1, e2, e3, _⟩ := r2 j r[j] (List.getElem?_eq_getElem hj)
      rw [List.getElem?_eq_getElem hj, e1]
      simp [e3]
    · rw [List.getElem?_eq_none (by omega), List.getElem?_eq_none (by omega)]; rfl
  refine h r (hk r hshape fun l hl b hb => ?_) F w0 a w ⟨g, ?_⟩
  · obtain ⟨j, hj, rfl⟩ := List.getElem_of_mem hl
    obtain ⟨us, v, e1, e2, e3, e4, _⟩ := r2 j r[j] (List.getElem?_eq_getElem hj)
    exact e4 b hb
  · exact { r0 with
      slots := r0.slots
      objs := fun i => by
        show RepO w g i (lookO ((d, _) :: O) i)
        have : lookO ((d, Obj.rr T E 1 (r.map (List.map (eFlt .f64))) []) :: O) i = if Nat.beq i d then some (.rr T E 1 (r.map (List.map (eFlt .f64))) []) else lookO O i := rfl
        rw [this]
        split
        · rename_i e
          have e := Nat.eq_of_beq_eq_true e
          subst e
          simp only [RepO, List.length_map] at m2 m5 ⊢
          refine ⟨m1, cc, cur, by rw [r1]; exact m2, m3, m4, by rw [r1]; exact m5, m6, fun j xs hj => ?_⟩
          rw [List.getElem?_map, Option.map_eq_some_iff] at hj
          obtain ⟨l, hl, rfl⟩ := hj
          obtain ⟨us, v, e1, e2, e3, e4, e5⟩ := r2 j l hl
          exact ⟨v, e2, e5⟩
        · exact r0.objs i
      ok := Ok_set r0.ok (d := d) (o := .rr T E 1 (r.map (List.map (eFlt .f64))) []) (fun _ _ _ e => by cases e) (fun _ _ _ _ _ e p hp => by cases e; cases hp) }
end
/-! ### New own slices as results -/
section
variable {P : Program}
/-- A new own slice. -/
def RowR (w : World) (lo : Nat) (E : TypeId) (sz : Nat) (xs : List DV) (v : Value) : Prop := RepIn w (fun _ => False) (fun b => lo ≤ b ∧ b < w.heap.size) E sz xs v
def AFnO (P : Program) (f : FuncId) (xs : List DV) (E : TypeId) (sz : Nat) (ys : List DV) : Prop := FnOk P f ∧
  ∀ (F : Nat → Prop) (w : World) (vs : List Value), GOk NoB w → All2 (RepV w F) xs vs →
    Calls P f vs.toArray w fun e w' => Below w.heap.size w w' ∧ ∃ v, e = .returned v ∧ RowR w' w.heap.size E sz ys v
def outQO (rs : List ResultVar) (E : TypeId) (sz : Nat) (ys : List DV) : AExit → St → Prop
  | .exit _, _ => False
  | .panic _, _ => False
  | _, σ => ∃ t id, rs = [.tmp t] ∧ σ.slot t = .oref id ∧ id < 1000000 ∧ σ.obj id = some (.row E sz ys)
theorem row_new {B : Nat → Nat → Prop} {F : Cx} {w0 w : World} {n : Nat} {σ : St} {a : Act} {g : Gh} (r : RelG B F w0 n σ a w g) (_hB : B = NoB) {id : Nat} (hid : id < 1000000) {E : TypeId} {sz : Nat} {ys : List DV} (hb : bareL ys = true) (ho : σ.obj id = some (.row E sz ys)) : RowR w w0.heap.size E sz ys (g.hdr id) := by
  have hO := r.objs id
  rw [ho] at hO
  simp only [RepO] at hO
  rcases hO with ⟨_, h2, h3⟩ | ⟨k1, c, cur, k2, k3, k4, k5, k6, k7⟩
  · exact .inl ⟨h2, h3⟩
  · have hown := r.own id k1
    exact .inr ⟨g.blk id, c, cur, ⟨hown.2.1.new hid, hown.2.2⟩, k2, k3, k4, k5, k6, RepF.bare _ _ _ hb k7⟩
theorem RowR.rep {w : World} {lo : Nat} {E : TypeId} {sz : Nat} {ys : List DV} {v : Value} (h : RowR w lo E sz ys v) : RepD w (fun k => lo ≤ k) (.sl E sz ys) [v] := by
  simp only [RepD]
  rcases h with ⟨rfl, rfl⟩ | ⟨b, c, cur, hb, rfl, h3, h4, h5, h6, h7⟩
  · exact ⟨none, 0, [], rfl, by simp, by simp [RepF], .inl rfl⟩
  · refine ⟨_, c, _, rfl, h5, RepF.frame (fun _ hk => hk.elim) (fun _ _ _ => rfl) _ _ _ h7, .inr ⟨b, 0, rfl, hb.1, fun j u hj => ?_⟩⟩
    rw [Nat.zero_add, cell_of_row w b j cur E (0, 0) h3]
    rw [List.getElem?_take] at hj
    split at hj
    · simpa using hj
    · cases hj
theorem AFnO.intro {f : FuncId} {fn : Func} {c : Code} {xs : List DV} {E : TypeId} {sz : Nat} {ys : List DV} (hbare : bareL ys = true) (hf : P.funcs[f]? = some fn) (hb : fn.body = some c) (hn : (fn.name == "runtime.NumGoroutine") = false)
    (hl : xs.length ≤ fn.ntmps) (hnl : fn.ntmps ≤ 1000000) (hw : AWp P NoB fn.ntmps c (mkSt (argL 0 xs) []) (outQO fn.results.toList E sz ys)) : AFnO P f xs E sz ys := by
  refine ⟨⟨fn, hf, hn, by rw [hb]; rfl⟩, fun F w vs hgl hvs => ?_⟩
  have hlen := All2.length hvs
  refine calls_of_wp hf hb (wp_mono (hw ⟨F, []⟩ w _ w ⟨{ S := fun k => F k ∧ k < w.heap.size, blk := fun _ => 0, hdr := fun _ => .bool true, has := fun _ => False, sub := fun _ _ _ => False }, ?_⟩) fun e a' w' hp => ?_)
  · refine { os := rfl, tape := rfl, output := rfl, size := Nat.le_refl _, old := fun _ _ _ => rfl, n := ?_, nlt := hnl, glob := hgl, defers := rfl, sF := fun k hk => .inl hk.1, sB := fun k hk => hk.2, own := fun i hi => hi.elim, dj := fun i j _ hi => hi.elim, slots := fun i => ?_, objs := fun i => ?_, ok := ?_, hv := fun _ => rfl, sub := fun i j b hb => hb.elim }
    · simp; omega
    · simp only [mkSt, look_argL, Nat.zero_le, if_true, Nat.sub_zero]
      split
      · rename_i x hx
        obtain ⟨u, hu, hr⟩ := hvs.get hx
        have hi : i < vs.length := (List.getElem?_eq_some_iff.1 hu).1
        have : (vs.toArray ++ Array.replicate (fn.ntmps - vs.toArray.size) undef).getD i undef = u := by
          rw [Array.getD_eq_getD_getElem?, Array.getElem?_append_left (by simpa using hi)]
          simp [hu]
        rw [this]
        exact RepV.restrict hr
      · trivial
    · simp [mkSt, lookO, RepO]
    · refine ⟨fun i k hk => ?_, fun i T sz x hi => by simp [mkSt, lookO] at hi, fun i T E sz xss hs hi => by simp [mkSt, lookO] at hi⟩
      simp only [mkSt, look_argL] at hk
      split at hk
      · split at hk <;> simp [AV.refs] at hk
      · simp [AV.refs] at hk
  · have fin : ∀ (σ : St) (t id : Nat), fn.results.toList = [.tmp t] → σ.slot t = .oref id → id < 1000000 → σ.obj id = some (.row E sz ys) → Rel NoB ⟨F, []⟩ w fn.ntmps σ a' w' → a'.defers = [] ∧ ∃ v, (results fn a'.tmps).run P w' = .ok v w' ∧
        (Below w.heap.size w w' ∧ ∃ v', Ending.returned v = .returned v' ∧ RowR w' w.heap.size E sz ys v') := by
      rintro σ t id e1 e2 e3 e4 ⟨g, rg⟩
      have hs := rg.slots t
      rw [e2] at hs
      simp only [RepS] at hs
      have hrun : (results fn a'.tmps).run P w' = .ok (g.hdr id) w' := by
        unfold results
        have e : fn.results = [ResultVar.tmp t].toArray := by rw [← Array.toList_inj, e1]
        rw [Sem.run_bind, e, List.mapM_toArray, Sem.run_map, ← hs]
        simp
      exact ⟨rg.defers, _, hrun, ⟨rg.os, rg.tape, rg.output, rg.size, fun k hk => rg.old k hk (fun _ h => h)⟩, _, rfl, row_new rg rfl e3 hbare e4⟩
    cases e with
    | normal => obtain ⟨σ, ⟨t, id, e1, e2, e3, e4⟩, h4⟩ := hp; exact fin σ t id e1 e2 e3 e4 h4
    | ret => obtain ⟨σ, ⟨t, id, e1, e2, e3, e4⟩, h4⟩ := hp; exact fin σ t id e1 e2 e3 e4 h4
    | exit i => obtain ⟨σ, h1, h3⟩ := hp; exact h1.elim
    | goto l => exact hp.elim
    | panic ch => obtain ⟨v, σ, _, h, _⟩ := hp; exact h.elim
    | outgrown => exact hp.elim
/-- One of a set, in new memory alone. -/
def AFnSF (P : Program) (f : FuncId) (xs : List DV) (S : DV → Prop) : Prop := FnOk P f ∧
  ∀ (F : Nat → Prop) (w : World) (vs : List Value), GOk NoB w → All2 (RepV w F) xs vs →
    Calls P f vs.toArray w fun e w' => Below w.heap.size w w' ∧ ∃ y v, S y ∧ e = .returned v ∧ RepV w' (fun k => w.heap.size ≤ k) y v
/-- A new own slice, or none, and a truth value. -/
def outQF (rs : List ResultVar) (S : DV → Prop) : AExit → St → Prop
  | .exit _, _ => False
  | .panic _, _ => False
  | _, σ => ∃ t1 t2 E sz ys b, rs = [.tmp t1, .tmp t2] ∧ ((σ.slot t1 = .dat (.sl E sz []) ∧ ys = []) ∨ ∃ id, σ.slot t1 = .oref id ∧ id < 1000000 ∧ bareL ys = true ∧ σ.obj id = some (.row E sz ys)) ∧ σ.slot t2 = .dat (.v (.bool b)) ∧ S (.tup [.sl E sz ys, .v (.bool b)])
theorem AFnSF.intro {f : FuncId} {fn : Func} {c : Code} {xs : List DV} {S : DV → Prop} (hf : P.funcs[f]? = some fn) (hb : fn.body = some c) (hn : (fn.name == "runtime.NumGoroutine") = false)
    (hl : xs.length ≤ fn.ntmps) (hnl : fn.ntmps ≤ 1000000) (hw : AWp P NoB fn.ntmps c (mkSt (argL 0 xs) []) (outQF fn.results.toList S)) : AFnSF P f xs S := by
  refine ⟨⟨fn, hf, hn, by rw [hb]; rfl⟩, fun F w vs hgl hvs => ?_⟩
  have hlen := All2.length hvs
  refine calls_of_wp hf hb (wp_mono (hw ⟨F, []⟩ w _ w ⟨{ S := fun k => F k ∧ k < w.heap.size, blk := fun _ => 0, hdr := fun _ => .bool true, has := fun _ => False, sub := fun _ _ _ => False }, ?_⟩) fun e a' w' hp => ?_)
  · refine { os := rfl, tape := rfl, output := rfl, size := Nat.le_refl _, old := fun _ _ _ => rfl, n := ?_, nlt := hnl, glob := hgl, defers := rfl, sF := fun k hk => .inl hk.1, sB := fun k hk => hk.2, own := fun i hi => hi.elim, dj := fun i j _ hi => hi.elim, slots := fun i => ?_, objs := fun i => ?_, ok := ?_, hv := fun _ => rfl, sub := fun i j b hb => hb.elim }
    · simp; omega
    · simp only [mkSt, look_argL, Nat.zero_le, if_true, Nat.sub_zero]
      split
      · rename_i x hx
        obtain ⟨u, hu, hr⟩ := hvs.get hx
        have hi : i < vs.length := (List.getElem?_eq_some_iff.1 hu).1
        have : (vs.toArray ++ Array.replicate (fn.ntmps - vs.toArray.size) undef).getD i undef = u := by
          rw [Array.getD_eq_getD_getElem?, Array.getElem?_append_left (by simpa using hi)]
          simp [hu]
        rw [this]
        exact RepV.restrict hr
      · trivial
    · simp [mkSt, lookO, RepO]
    · refine ⟨fun i k hk => ?_, fun i T sz x hi => by simp [mkSt, lookO] at hi, fun i T E sz xss hs hi => by simp [mkSt, lookO] at hi⟩
      simp only [mkSt, look_argL] at hk
      split at hk
      · split at hk <;> simp [AV.refs] at hk
      · simp [AV.refs] at hk
  · have fin : ∀ (σ : St), (∃ t1 t2 E sz ys b, fn.results.toList = [.tmp t1, .tmp t2] ∧ ((σ.slot t1 = .dat (.sl E sz []) ∧ ys = []) ∨ ∃ id, σ.slot t1 = .oref id ∧ id < 1000000 ∧ bareL ys = true ∧ σ.obj id = some (.row E sz ys)) ∧ σ.slot t2 = .dat (.v (.bool b)) ∧ S (.tup [.sl E sz ys, .v (.bool b)])) → Rel NoB ⟨F, []⟩ w fn.ntmps σ a' w' → a'.defers = [] ∧ ∃ v, (results fn a'.tmps).run P w' = .ok v w' ∧
        (Below w.heap.size w w' ∧ ∃ y v', S y ∧ Ending.returned v = .returned v' ∧ RepV w' (fun k => w.heap.size ≤ k) y v') := by
      rintro σ ⟨t1, t2, E, sz, ys, b, e1, e2, e3, e4⟩ ⟨g, rg⟩
      have hs2 := rg.slots t2
      rw [e3] at hs2
      have hv2 : a'.eval (.tmp t2) = .bool b := raw_eval (ev_rep rg (.tmp t2)) (by rw [show ev σ (.tmp t2) = σ.slot t2 from rfl, e3]; rfl)
      obtain ⟨v1, hv1, hr1⟩ : ∃ v1, a'.tmps.getD t1 undef = v1 ∧ RepD w' (fun k => w.heap.size ≤ k) (.sl E sz ys) [v1] := by
        have hs := rg.slots t1
        refine ⟨_, rfl, ?_⟩
        rcases e2 with ⟨e2, rfl⟩ | ⟨id, e2, e5, e6, e7⟩
        · rw [e2] at hs
          simp only [RepS, RepV, RepD] at hs ⊢
          obtain ⟨ad, c, row, k1, k2, k3, k4⟩ := hs
          have : row = [] := by have := (RepF.length k3).1; simp at this; exact this
          exact ⟨ad, c, row, k1, k2, by rw [this]; simp [RepF], .inl this⟩
        · rw [e2] at hs
          simp only [RepS] at hs
          rw [hs]
          exact (row_new rg rfl e5 e6 e7).rep
      have hrun : (results fn a'.tmps).run P w' = .ok (.tuple #[v1, .bool b]) w' := by
        unfold results
        have e : fn.results = [ResultVar.tmp t1, ResultVar.tmp t2].toArray := by rw [← Array.toList_inj, e1]
        have hv2' : a'.tmps.getD t2 undef = .bool b := hv2
        rw [Sem.run_bind, e, List.mapM_toArray, Sem.run_map]
        rw [Array.getD_eq_getD_getElem?] at hv1 hv2'
        simp [hv1, hv2']
      exact ⟨rg.defers, _, hrun, ⟨rg.os, rg.tape, rg.output, rg.size, fun k hk => rg.old k hk (fun _ h => h)⟩, _, _, e4, rfl, [v1, .bool b], rfl, .cons (.inr ⟨rfl, hr1⟩) (.cons (.inr ⟨rfl, by simp [RepD, Value.oneCell']⟩) .nil)⟩
    cases e with
    | normal => obtain ⟨σ, h1, h4⟩ := hp; exact fin σ h1 h4
    | ret => obtain ⟨σ, h1, h4⟩ := hp; exact fin σ h1 h4
    | exit i => obtain ⟨σ, h1, h3⟩ := hp; exact h1.elim
    | goto l => exact hp.elim
    | panic ch => obtain ⟨v, σ, _, h, _⟩ := hp; exact h.elim
    | outgrown => exact hp.elim
section
variable {N : Value → Prop} {σ : St}
/-- A call that takes an own slice and yields a new one. -/
theorem Step.callO {o : Oper} {d id : Nat} {f : FuncId} {args : List Operand} {ats : Array TypeId} {xs : List DV} {E : TypeId} {sz : Nat} {ys : List DV} (hc : AFnO P f xs E sz ys)
    (ho : o.op = .call { callee := .value (.func f), args := args.toArray, argTypes := ats }) (hd : o.dst = some d) (hn : σ.obj d = none) (ha : argsOk σ true args xs) {x : Operand} (hx : x ∈ args) (hxi : ev σ x = .oref id) (hob : σ.obj id ≠ none) (hlid : id < 1000000) : Step P N true σ o ⟨.oref d, [(id, .gone), (d, .row E sz ys)]⟩ where
  ok := by
    rintro σ' ⟨g1, g2, g3⟩ B F w0 n a w hdn ⟨g, r⟩ Q _
    have hops : ∀ x ∈ args, x ∈ o.op.operands := fun x hx => by rw [ho]; simp [Op.operands, Call.operands, hx]
    have hl : looks o = true := by simp [looks, ho]
    have hob' : σ'.obj id ≠ none := by rw [g3 hl x (hops x hx) id (by rw [hxi]; simp [AV.refs])]; exact hob
    have ha' := argsOk_agree args xs (fun x hx => g1 x (hops x hx)) (fun x hx => g3 hl x (hops x hx)) ha
    have hrep := argsOk_rep r args xs ha'
    obtain ⟨⟨fn, hf, hname, hbody⟩, hcalls⟩ := hc
    have hcall := hcalls _ w _ (r.gok fun _ _ h => h.elim) hrep
    unfold Oper.wp
    have hrun : (execOp a.eval o).run P w = .ok (.enter f (args.map a.eval).toArray) w := by
      simp only [execOp, ho, resolve, Act.eval, Deferred.ofValue, Sem.run_bind, Sem.run_pure, Result.andThen_ok, invoke, callFunc, run_program, hf, hname, hbody]
      simp
    rw [hrun, Oper.upon_enter]
    refine hcall.mono ?_
    rintro e w' ⟨hb, v, rfl, hv⟩
    rw [hd]
    rcases hv with ⟨h1, h2⟩ | ⟨b, c, cur, ⟨b1, b2⟩, h2, h3, h4, h5, h6, h7⟩
    · have r2 := r.reown (Nat.lt_of_lt_of_le (hdn d hd) r.nlt) hlid hob' (g2 d hd hn) hb.os hb.tape hb.output hb.size (fun k hk _ => hb.block k hk) 0 v (by rw [h2]; rfl) False (fun h => h.elim) E sz ys (.inl ⟨fun h => h, h1, h2⟩)
      exact ⟨_, r2.put (x := .oref d) (by simp [RepS, upd_same]) (fun k hk => by simp only [AV.refs] at hk; rw [hk, St.obj_set, if_pos rfl]; simp) (hdn d hd)⟩
    · have r2 := r.reown (Nat.lt_of_lt_of_le (hdn d hd) r.nlt) hlid hob' (g2 d hd hn) hb.os hb.tape hb.output hb.size (fun k hk _ => hb.block k hk) b v (by rw [h2]; rfl) True (fun _ => .inl ⟨b1, b2⟩) E sz ys (.inr ⟨trivial, c, cur, h2, h3, h4, h5, h6, RepF.frame (fun _ hk => hk.elim) (fun _ hk _ => hk.elim) _ _ _ h7⟩)
      exact ⟨_, r2.put (x := .oref d) (by simp [RepS, upd_same]) (fun k hk => by simp only [AV.refs] at hk; rw [hk, St.obj_set, if_pos rfl]; simp) (hdn d hd)⟩
  objs := fun q hq => by
    simp only [List.mem_cons, List.not_mem_nil, or_false] at hq
    rcases hq with rfl | rfl
    · exact .inr ⟨rfl, by simp [looks, ho], x, by simp [wr, ho, Op.operands, Call.operands, hx], by rw [hxi]; simp [AV.refs]⟩
    · exact .inl ⟨hd, hn⟩
  okk := fun σ' hA ok => by
    have h1 := Ok_set (Ok_set ok (d := id) (o := .gone) (fun _ _ _ e => by cases e)) (d := d) (o := .row E sz ys) (fun _ _ _ e => by cases e)
    rw [hd]
    refine ⟨fun i k hk => ?_, ok_tail (app_obj _ _ _) h1.2⟩
    rw [app_slot] at hk
    rw [app_obj]
    simp only [setAll]
    split at hk
    · simp only [AV.refs] at hk; rw [hk, St.obj_set, if_pos rfl]; simp
    · exact h1.1 i k hk
  near := fun y h => by rw [ho] at h; simp [carry] at h
  made := fun _ k hk => by simp only [AV.refs] at hk; rw [hk]; exact hd
end
/-- A call that lends own slices and yields one of a set, in new memory. -/
theorem NOps.callSF {B : Nat → Nat → Prop} {n : Nat} {ops : Array Oper} {Q : AExit → St → Prop} {σ : St} {o : Oper} {rest : List Oper} {f : FuncId} {args : List Operand} {ats : Array TypeId} {xs : List DV} {S : DV → Prop} {d : Nat} (hs : ops.toList.drop (ops.size - (rest.length + 1)) = o :: rest) (hc : AFnSF P f xs S) (hg : o.guard = none)
    (ho : o.op = .call { callee := .value (.func f), args := args.toArray, argTypes := ats }) (hd : o.dst = some d) (hdn : d < n) (ha : argsOk σ true args xs) (k : ∀ y, S y → NOps P B n ops Q rest (σ.put d (.dat y))) : NOps P B n ops Q (o :: rest) σ := by
  rintro F w0 a w ⟨g, r⟩
  have hlen := congrArg List.length hs
  simp only [List.length_drop, Array.length_toList, List.length_cons] at hlen
  have h0 : ops[ops.size - (rest.length + 1)]? = some o := by
    have := congrArg (fun z => z[0]?) hs
    simpa using this
  rw [List.length_cons, List.range'_succ, wpOps_cons]
  unfold wpOp
  simp only [h0]
  have hw : Region.wanted o (yielded ops a.tmps) = true := by simp [Region.wanted, hg]
  rw [if_pos hw]
  refine .inl ?_
  have hrep := argsOk_rep r args xs ha
  obtain ⟨⟨fn, hf, hname, hbody⟩, hcalls⟩ := hc
  have hcall := hcalls _ w _ (r.gok fun _ _ h => h.elim) hrep
  unfold Oper.wp
  have hrun : (execOp a.eval o).run P w = .ok (.enter f (args.map a.eval).toArray) w := by
    simp only [execOp, ho, resolve, Act.eval, Deferred.ofValue, Sem.run_bind, Sem.run_pure, Result.andThen_ok, invoke, callFunc, run_program, hf, hname, hbody]
    simp
  rw [hrun, Oper.upon_enter]
  refine hcall.mono ?_
  rintro e w' ⟨hb, y, v, hS, rfl, hv⟩
  have hw' := r.world (w' := w') hb.os hb.tape hb.output hb.size hb.block (fun k => w.heap.size ≤ k ∧ k < w'.heap.size) (fun k hk => hk)
  have r2 := RelG.putO hw' o.dst (x := .dat y) (RepV.frame (fun k hk => .inr hk) (fun _ _ _ => rfl) hv.restrict) (fun k hk => by simp [AV.refs] at hk) (fun d' hd' => by rw [hd] at hd'; cases hd'; exact hdn)
  rw [hd] at r2
  have := k y hS F w0 _ w' ⟨_, r2⟩
  have e : ops.size - rest.length = ops.size - (rest.length + 1) + 1 := by omega
  rw [e] at this
  rw [hd]
  exact this
end
section
variable {P : Program} {N : Value → Prop}
theorem AFnO.intro' {f : FuncId} {fn : Func} {c : Code} {xs : List DV} {E : TypeId} {sz : Nat} {ys : List DV} {n : Nat} {rs : List ResultVar} {L : List (Nat × AV)} (hbare : bareL ys = true) (hf : P.funcs[f]? = some fn) (hb : fn.body = some c) (hname : (fn.name == "runtime.NumGoroutine") = false)
    (hn : fn.ntmps = n) (hr : fn.results.toList = rs) (hl : Nat.ble xs.length n = true) (hL : argL 0 xs = L) (hw : AWp P NoB n c (mkSt L []) (outQO rs E sz ys)) (hnl : n ≤ 1000000 := by decide) : AFnO P f xs E sz ys := by
  subst hn hr hL
  exact AFnO.intro hbare hf hb hname (Nat.le_of_ble_eq_true hl) hnl hw
theorem AFnSF.intro' {f : FuncId} {fn : Func} {c : Code} {xs : List DV} {S : DV → Prop} {n : Nat} {rs : List ResultVar} {L : List (Nat × AV)} (hf : P.funcs[f]? = some fn) (hb : fn.body = some c) (hname : (fn.name == "runtime.NumGoroutine") = false)
    (hn : fn.ntmps = n) (hr : fn.results.toList = rs) (hl : Nat.ble xs.length n = true) (hL : argL 0 xs = L) (hw : AWp P NoB n c (mkSt L []) (outQF rs S)) (hnl : n ≤ 1000000 := by decide) : AFnSF P f xs S := by
  subst hn hr hL
  exact AFnSF.intro hf hb hname (Nat.le_of_ble_eq_true hl) hnl hw
theorem AFnO.dat {f : FuncId} {xs : List DV} {E : TypeId} {sz : Nat} {ys : List DV} (h : AFnO P f xs E sz ys) : AFn P f xs (.sl E sz ys) false :=
  ⟨h.1, fun F w vs hg hv => (h.2 F w vs hg hv).mono fun _ _ ⟨h1, v, h2, h3⟩ => ⟨v, h2, h1, by
    have := h3.rep
    simp only [RepV]
    exact RepD.frame (fun k hk => .inr hk) (fun _ _ _ => rfl) _ _ this⟩⟩
theorem AOps.callO {ops : Array Oper} {cf : Oper → Bool} {K : AExit → St → Prop} {o : Oper} {rest : List Oper} {L : List (Nat × AV)} {O : List (Nat × Obj)} {d id : Nat} {f : FuncId} {args : List Operand} {ats : Array TypeId} {xs : List DV} {E : TypeId} {sz : Nat} {ys : List DV} (hc : AFnO P f xs E sz ys) (i : Nat)
    (ho : o.op = .call { callee := .value (.func f), args := args.toArray, argTypes := ats }) (hcf : cf o = true) (hd : o.dst = some d) (hg : gOn ops L o = true) (hn : lookO O d = none) (ha : argsOk (mkSt L O) true args xs) {x : Operand} (hx : args[i]? = some x) (hxi : ev (mkSt L O) x = .oref id) (hob : (lookO O id).isSome = true)
    (k : AOps P ops cf K rest (mkSt ((d, .oref d) :: L) ((d, .row E sz ys) :: (id, .gone) :: O))) (hlid : id < 1000000 := by decide) : AOps P ops cf K (o :: rest) (mkSt L O) := by
  refine AOps.eff hg (e := ⟨.oref d, [(id, .gone), (d, .row E sz ys)]⟩) ?_ (by rw [hd]; exact k)
  rw [hcf]
  exact Step.callO hc ho hd hn ha (List.mem_of_getElem? hx) hxi (fun e => by
    have e' : lookO O id = none := e
    rw [e'] at hob; cases hob) hlid
theorem KN.callSF {B : Nat → Nat → Prop} {n : Nat} {ops : Array Oper} {Q : AExit → St → Prop} {α : Type} {e : α → DV} {C : (α → Prop) → Prop} {k : α → Prop} {L : List (Nat × AV)} {O : List (Nat × Obj)} {o : Oper} {rest l : List Oper} {f : FuncId} {args : List Operand} {ats : Array TypeId} {xs : List DV} {d : Nat} (h : CallS C k) (hl : l = o :: rest) (hs : ops.toList.drop (ops.size - (rest.length + 1)) = o :: rest)
    (hc : ∀ R, C R → AFnSF P f xs (inS e R)) (hg : o.guard = none) (ho : o.op = .call { callee := .value (.func f), args := args.toArray, argTypes := ats }) (hd : o.dst = some d) (hdn : Nat.blt d n = true) (ha : argsOk (mkSt L O) true args xs)
    (kk : ∀ x, k x → NOps P B n ops Q rest (mkSt ((d, .dat (e x)) :: L) O)) : KN P B n ops Q l .normal (mkSt L O) := by
  subst hl
  obtain ⟨R, h1, h2⟩ := h
  refine NOps.callSF hs (hc R h1) hg ho hd (by simpa [Nat.blt_eq] using hdn) ha fun y hy => ?_
  obtain ⟨x, hx, rfl⟩ := hy
  exact kk x (h2 x hx)
end
/-! ### Words for parts -/
/-- A part of a list may be cut. -/
def Cut {α : Type} (xs : List α) (l h : Int) (k : Prop) : Prop := 0 ≤ l ∧ l ≤ h ∧ h ≤ xs.length ∧ k
theorem view_int {κ : IntKind} {l : Int} (h : 0 ≤ l) : AV.dat (.v (.int κ l)) = .dat (.v (.int κ ((Int.toNat l : Nat) : Int))) := by rw [Int.toNat_of_nonneg h]
theorem view_len {α : Type} (e : α → DV) (xs : List α) : Int.toNat ((xs.length : Nat) : Int) = (List.map e xs).length := by simp
theorem view_full {α : Type} (e : α → DV) (xs : List α) : Int.toNat ((xs.length : Nat) : Int) ≤ (List.map e xs).length := by simp
theorem view_m {l h : Int} (b : l ≤ h) : Int.toNat l ≤ Int.toNat h := Int.toNat_le_toNat b
theorem view_le {α : Type} {e : α → DV} {xs : List α} {h : Int} (c : h ≤ (xs.length : Int)) : Int.toNat h ≤ (List.map e xs).length := by rw [List.length_map]; omega
theorem view_head {α : Type} (e : α → DV) (xs : List α) (k : Nat) : List.map e (List.take k xs) = List.take k (List.map e xs) := List.map_take
theorem view_tail {α : Type} (e : α → DV) (xs : List α) (l : Nat) : List.map e (List.drop l xs) = (List.drop l (List.map e xs)).take (Int.toNat ((xs.length : Nat) : Int) - l) := by
  rw [List.map_drop, List.take_of_length_le]; simp
/-! ### Results that some draws made -/
def drewN : Nat → World → World
  | 0, w => w
  | k + 1, w => (drewN k w).drew
/-- Some draws later. -/
def Drews (w w' : World) : Prop := ∃ k, w' = drewN k w
theorem Drews.refl (w : World) : Drews w w := ⟨0, rfl⟩
theorem drewN_add (k j : Nat) (w : World) : drewN k (drewN j w) = drewN (k + j) w := by
  induction k with
  | zero => rw [Nat.zero_add]; rfl
  | succ k ih => rw [Nat.succ_add]; simp only [drewN, ih]
theorem Drews.trans {a b c : World} : Drews a b → Drews b c → Drews a c := by
  rintro ⟨k, rfl⟩ ⟨j, rfl⟩
  exact ⟨j + k, drewN_add j k a⟩
theorem Drews.one {w w' : World} (h : w' = w ∨ w' = w.drew) : Drews w w' := by
  rcases h with rfl | rfl
  · exact .refl _
  · exact ⟨1, rfl⟩
section
variable {P : Program} {N : Value → Prop} {σ : St}
theorem RelG.drews {B : Nat → Nat → Prop} {F : Cx} {w0 w w' : World} {n : Nat} {a : Act} {g : Gh} (h : RelG B F w0 n σ a w g) (hd : Drews w w') : RelG B F w0 n σ a w' g := by
  obtain ⟨k, rfl⟩ := hd
  induction k with
  | zero => exact h
  | succ k ih => exact ih.drew
theorem Step.anyVs {c : Bool} {o : Oper} {p : Value → Prop} (h1 : ∀ v, p v → v.oneCell' = true) (h : ∀ σ', Agree o σ σ' → ∀ (B : Nat → Nat → Prop) (F : Cx) (w0 : World) (n : Nat) (a : Act) (w : World) (g : Gh), RelG B F w0 n σ' a w g →
    ∃ u w', (execOp a.eval o).run P w = .ok (.value u) w' ∧ Drews w w' ∧ p u) : Step P N c σ o ⟨.dat (.any p), []⟩ where
  ok := by
    rintro σ' hA B F w0 n a w hd ⟨g, r⟩ Q _
    obtain ⟨u, w', hu, hw, hp⟩ := h σ' hA B F w0 n a w g r
    unfold Oper.wp
    rw [hu, Oper.upon_value]
    exact ⟨g, RelG.putO (r.drews hw) o.dst (by simp only [RepS, RepV, RepD]; exact ⟨u, rfl, h1 u hp, hp⟩) (fun k hk => by simp [AV.refs] at hk) hd⟩
  objs := fun p hp => by cases hp
  okk := fun σ' _ ok => Ok_dat ok o.dst _
  near := fun _ _ k hk => by simp [AV.refs] at hk
/-- A function that the model stands in for, of two floats whatever they are. -/
def ExtAny (P : Program) (f : FuncId) : Prop := ∀ a b, a < 18446744073709551616 → b < 18446744073709551616 → ∀ w, ∃ u w', (callFunc f #[.float .f64 a, .float .f64 b]).run P w = .ok (.value u) w' ∧ Drews w w' ∧ anyF u
theorem Step.extAny {c : Bool} {o : Oper} {f : FuncId} {x y : Operand} {ats : Array TypeId} (hf : ExtAny P f) (ho : o.op = .call { callee := .value (.func f), args := #[x, y], argTypes := ats }) (hx : fU (ev σ x)) (hy : fU (ev σ y)) : Step P N c σ o ⟨.dat (.any anyF), []⟩ :=
  Step.anyVs (fun _ => anyF_one) fun σ' hA B F w0 n a w g r => by
    obtain ⟨u, hu, e1⟩ := hx w g _ (by rw [← hA.1 x (by simp [ho, Op.operands, Call.operands])]; exact ev_rep r x)
    obtain ⟨v, hv, e2⟩ := hy w g _ (by rw [← hA.1 y (by simp [ho, Op.operands, Call.operands])]; exact ev_rep r y)
    obtain ⟨z, w', h1, h2, h3⟩ := hf u v hu hv w
    refine ⟨z, w', ?_, h2, h3⟩
    have hfv : a.eval (.func f) = .func (.func f) #[] #[] := rfl
    have e1' : a.eval x = .float .f64 u := e1
    have e2' : a.eval y = .float .f64 v := e2
    simp [execOp, ho, resolve, hfv, Deferred.ofValue, invoke, e1', e2', h1]
end
end Go.Sim
