/- What is proved: a struct that is built, and what is loaded, holds what the plain function tells. -/
import Derived.Test.YtnhflokfcnfegaaSim15
namespace Go.Sim
open Go.RowKit

section
variable {P : Program} {T : Tab} {B F : Nat → Prop} {w0 w : World} {n : Nat} {σ : St} {a : Act} {g : Gh}

theorem run_places : ∀ (l : List Field), (∀ f ∈ l, ∃ te, EntryOk P f.type te) →
    ∃ ps : List (Nat × Nat), (l.mapM fun f => (do pure (f.offset, ← sizeOf f.type) : Sem (Nat × Nat))).run P w = .ok ps w ∧ ∀ (i : Nat) (f : Field) (te : TE), l[i]? = some f → EntryOk P f.type te → ps[i]? = some (f.offset, te.size)
  | [], _ => ⟨[], rfl, fun i f te h => by simp at h⟩
  | f :: l, h => by
    obtain ⟨te, hte⟩ := h f (by simp)
    obtain ⟨ps, h1, h2⟩ := run_places l (fun f hf => h f (by simp [hf]))
    refine ⟨(f.offset, te.size) :: ps, by rw [List.mapM_cons, Sem.run_bind, Sem.run_bind, run_sizeOf hte, Result.andThen_ok, Sem.run_pure, Result.andThen_ok, Sem.run_bind, h1]; rfl, ?_⟩
    intro i f' te' hi hE
    cases i with
    | zero =>
      simp only [List.getElem?_cons_zero, Option.some.injEq] at hi
      subst hi
      obtain ⟨i1, d1, z1, a1, a2, a3, a4, _⟩ := hte
      obtain ⟨i2, d2, z2, b1, b2, b3, b4, _⟩ := hE
      rw [a1] at b1
      cases b1
      simp [← a4, ← b4]
    | succ i => simp only [List.getElem?_cons_succ] at hi ⊢; exact h2 i f' te' hi hE

theorem foldl_set : ∀ (vs : List Value) (off k : Nat) (cs : Array Value), off + k + vs.length ≤ cs.size →
    ((vs.zipIdx k).foldl (fun cs (p : Value × Nat) => cs.setIfInBounds (off + p.2) p.1) cs).toList = cs.toList.take (off + k) ++ vs ++ cs.toList.drop (off + k + vs.length)
  | [], off, k, cs, _ => by simp
  | v :: vs, off, k, cs, h => by
    simp only [List.length_cons] at h
    simp only [List.zipIdx_cons, List.foldl_cons]
    rw [foldl_set vs off (k + 1) _ (by simp; omega)]
    have hlt : off + k < cs.toList.length := by simp; omega
    have hA : (cs.toList.take (off + k)).length = off + k := by simp; omega
    have hset : (cs.setIfInBounds (off + k) v).toList = cs.toList.take (off + k) ++ v :: cs.toList.drop (off + k + 1) := by
      rw [Array.toList_setIfInBounds, List.set_eq_take_append_cons_drop, if_pos hlt]
    rw [hset]
    have e1 : (cs.toList.take (off + k) ++ v :: cs.toList.drop (off + k + 1)).take (off + (k + 1)) = cs.toList.take (off + k) ++ [v] := by
      rw [List.take_append, hA, List.take_of_length_le (by omega), show off + (k + 1) - (off + k) = 1 by omega]
      rfl
    have e2 : (cs.toList.take (off + k) ++ v :: cs.toList.drop (off + k + 1)).drop (off + (k + 1) + vs.length) = cs.toList.drop (off + k + (vs.length + 1)) := by
      rw [List.drop_append, hA, List.drop_eq_nil_of_le (by omega), show off + (k + 1) + vs.length - (off + k) = vs.length + 1 by omega]
      simp only [List.nil_append, List.drop_succ_cons, List.drop_drop]
      congr 1
      omega
    rw [e1, e2]
    simp

theorem buildF_run (hT : TabOk P T) (r : RelG B F w0 n σ a w g) {t : TypeId} {ns : List Nat} {gs : Array Field} (hu : P.underlying t = some (.struct gs)) {places : List (Nat × Nat)}
    (hp : ∀ (i : Nat) (f : Field) (te : TE), gs.toList[i]? = some f → EntryOk P f.type te → places[i]? = some (f.offset, te.size)) :
    ∀ (ps : List (Nat × Operand)) (xs ys : List AV) (cells : Array Value), RepAF w g xs ns cells.toList → buildF T t σ ns ps xs = some ys →
      ∃ cells', Instr.fill (places.toArray[·]?) cells (ps.map fun p => (p.1, a.eval p.2)) = some cells' ∧ RepAF w g ys ns cells'.toList ∧ ∀ k, AV.refs.refsL ys k → AV.refs.refsL xs k ∨ σ.obj k ≠ none
  | [], xs, ys, cells, h, hb => by simp only [buildF, Option.some.injEq] at hb; subst hb; exact ⟨cells, rfl, h, fun k hk => .inl hk⟩
  | (i, x) :: ps, xs, ys, cells, h, hb => by
    simp only [buildF] at hb
    split at hb
    · rename_i fo fe m z hf hn hz
      split at hb
      · rename_i hc
        simp only [Bool.and_eq_true] at hc
        obtain ⟨⟨⟨c1, c2⟩, c3⟩, c4⟩ := hc
        have c2 := Nat.eq_of_beq_eq_true c2
        have c3 := Nat.eq_of_beq_eq_true c3
        have c4 := Nat.eq_of_beq_eq_true c4
        obtain ⟨gs', f, hu', hgi, rfl, hty, hE⟩ := fieldOf_ok hT hf
        rw [hu] at hu'
        cases hu'
        have hpl := hp i f fe (by simpa using hgi) hE
        have hS := nilT_rep (T := T) (t := fieldTy T t i) (ev_rep r x)
        obtain ⟨hcells, _, _⟩ := RepS.cells r.hv hS c1
        have hlen := RepA.len hcells
        obtain ⟨d1, d2, d3, m', hm', e, hl1, hl2, hd, hput⟩ := RepAF.at h hz
        rw [hn] at hm'
        cases hm'
        have hsz : (a.eval x).cells.size = fe.size := by rw [c3, ← c2, ← hlen]; simp
        have hfit : f.offset + (a.eval x).cells.size ≤ cells.size := by
          have := congrArg List.length e
          simp at this
          rw [this, hl1, c4, hsz, c3, hl2]
          omega
        have hset := foldl_set (a.eval x).cells.toList f.offset 0 cells (by simpa using hfit)
        simp only [Nat.add_zero, Array.length_toList] at hset
        have hnew : RepAF w g (xs.set i (nilT T (fieldTy T t i) (ev σ x))) ns (((a.eval x).cells.toList.zipIdx 0).foldl (fun cs (p : Value × Nat) => cs.setIfInBounds (f.offset + p.2) p.1) cells).toList := by
          rw [hset]
          have := hput (fun _ => True) w g _ (a.eval x).cells.toList (fun _ _ => trivial) (fun _ _ _ h => h) (by simp [hsz, c3]) hcells
          rw [e]
          rw [show (d1 ++ d2 ++ d3).take f.offset = d1 by rw [c4, ← hl1, List.append_assoc]; simp]
          rw [show (d1 ++ d2 ++ d3).drop (f.offset + (a.eval x).cells.size) = d3 by rw [c4, ← hl1, hsz, c3, ← hl2, ← List.length_append]; simp]
          exact this
        obtain ⟨cells', h1, h2, h3⟩ := buildF_run hT r hu hp ps _ ys _ hnew hb
        refine ⟨cells', ?_, h2, fun k hk => ?_⟩
        · simp only [List.map_cons, Instr.fill]
          have : places.toArray[i]? = some (f.offset, fe.size) := by simpa using hpl
          rw [this]
          simp only
          rw [if_neg (by simp only [Bool.or_eq_true, decide_eq_true_eq, not_or]; exact ⟨by simpa using hsz, by omega⟩)]
          have hz : (a.eval x).cells.zipIdx.foldl (fun cs (x : Value × Nat) => match x with | (c, j) => cs.setIfInBounds (f.offset + j) c) cells = ((a.eval x).cells.toList.zipIdx 0).foldl (fun cs (p : Value × Nat) => cs.setIfInBounds (f.offset + p.2) p.1) cells := by
            rw [← Array.foldl_toList, Array.toList_zipIdx]
          rw [hz]
          exact h1
        · rcases h3 k hk with h | h
          · rcases refsL_set h with h | h
            · exact .inl h
            · refine .inr ?_
              have := nilT_refs h
              cases x with
              | tmp t => exact r.ok.1 t k this
              | const v => simp only [ev] at this; split at this <;> simp [AV.refs] at this
              | global v => simp [ev, AV.refs] at this
              | func v => simp [ev, AV.refs] at this
          · exact .inr h
      · cases hb
    · cases hb

theorem allDat_spec : ∀ {xs : List AV} {ds : List DV}, allDat xs = some ds → xs = ds.map .dat
  | [], ds, h => by simp only [allDat, Option.some.injEq] at h; subst h; rfl
  | .dat x :: xs, ds, h => by
    simp only [allDat] at h
    split at h
    · rename_i ds' hd
      simp only [Option.some.injEq] at h
      subst h
      rw [allDat_spec hd]; rfl
    · cases h
  | .st .. :: _, ds, h => by simp [allDat] at h
  | .oref _ :: _, ds, h => by simp [allDat] at h
  | .pt .. :: _, ds, h => by simp [allDat] at h
  | .sp _ :: _, ds, h => by simp [allDat] at h
  | .dead :: _, ds, h => by simp [allDat] at h

theorem RepAF.to_F : ∀ {ys : List DV} {ns : List Nat} {cs : List Value}, RepAF w g (ys.map .dat) ns cs → RepF w g.S ys ns cs
  | [], _, _, h => by simpa only [RepF, RepAF, List.map_nil] using h
  | y :: ys, ns, cs, h => by
    simp only [List.map_cons, RepAF, RepF, RepA] at h ⊢
    obtain ⟨n, ns', c1, c2, e1, e2, e3, h1, h2⟩ := h
    exact ⟨n, ns', c1, c2, e1, e2, e3, h1, RepAF.to_F h2⟩

theorem mkSt'_rep {ns : List Nat} {xs : List AV} {cells : Array Value} (h : RepAF w g xs ns cells.toList) : RepS w g (mkSt' ns xs) (.agg cells) := by
  unfold mkSt'
  split
  · rename_i ds hd
    rw [allDat_spec hd] at h
    exact ⟨cells.toList, by simp, by simp only [RepD]; exact RepAF.to_F h⟩
  · exact ⟨cells.toList, by simp, by simp only [RepA]; exact h⟩

theorem refsL_map_dat : ∀ (zs : List DV) (k : Nat), ¬ AV.refs.refsL (zs.map .dat) k
  | [], _, h => by simp [AV.refs.refsL] at h
  | z :: zs, k, h => by simp only [List.map_cons, AV.refs.refsL, AV.refs, false_or] at h; exact refsL_map_dat zs k h

theorem opBuild_run (hT : TabOk P T) (r : RelG B F w0 n σ a w g) {t : TypeId} {ps : Array (Nat × Operand)} {y : AV} (h : opBuild T t σ ps.toList = some y) :
    ∃ u, (Instr.build t (ps.map fun (i, x) => (i, a.eval x))).run P w = .ok u w ∧ RepS w g y u ∧ ∀ k, y.refs k → σ.obj k ≠ none := by
  unfold opBuild at h
  split at h
  · rename_i te hte
    have hE := hT t te hte
    obtain ⟨z, hz, hzU, hzs, hzl⟩ := run_zero hE w g.S
    have hE' := hE
    obtain ⟨i, d, z', q1, q2, q3, _⟩ := hE
    split at h
    · rename_i fs ns zs hd hzero
      split at h
      · rename_i hall
        split at h
        · rename_i xs hb
          simp only [Option.some.injEq] at h
          subst h
          rw [hd] at q3
          cases d <;> simp only [TyD.ok] at q3
          rename_i gs
          obtain ⟨places, hp1, hp2⟩ := run_places (P := P) (w := w) gs.toList (fun f hf => by
            rw [← q3] at hall
            simp only [List.all_eq_true, List.mem_map] at hall
            have := hall _ ⟨f, hf, rfl⟩
            obtain ⟨fe, hfe⟩ := Option.isSome_iff_exists.1 this
            exact ⟨fe, hT _ _ hfe⟩)
          have hz0 : RepAF w g (zs.map .dat) ns z.cells.toList := by
            have := hzU.cells
            rw [hzero] at this
            exact RepAF.of_F this
          obtain ⟨cells', h1, h2, h3⟩ := buildF_run hT r q2 hp2 ps.toList _ xs z.cells hz0 hb
          refine ⟨.agg cells', ?_, mkSt'_rep h2, fun k hk => ?_⟩
          · have e : (gs.mapM fun f => (do pure (f.offset, ← sizeOf f.type) : Sem (Nat × Nat))).run P w = .ok places.toArray w := by
              have e' : gs = gs.toList.toArray := by simp
              rw [e', List.mapM_toArray, Sem.run_map, hp1]
              rfl
            have e2 : (ps.map fun (x : Nat × Operand) => (x.1, a.eval x.2)).toList = ps.toList.map fun p => (p.1, a.eval p.2) := by simp
            simp only [Instr.build, Sem.run_bind, hz, Result.andThen_ok, run_underlying q2, e, e2, h1, Sem.run_pure]
          · unfold mkSt' at hk
            split at hk
            · simp [AV.refs] at hk
            · simp only [AV.refs] at hk
              exact (h3 k hk).resolve_left (refsL_map_dat zs k)
        · cases h
      · cases h
    · rename_i m e zz hd
      split at h
      · rename_i hps
        split at h
        rotate_left
        · cases h
        rename_i hsome
        simp only [Option.some.injEq] at h
        subst h
        rw [hd] at q3
        cases d <;> simp only [TyD.ok] at q3
        rename_i m' e'
        obtain ⟨rfl, rfl⟩ := q3
        have hps' : ps = #[] := by
          apply Array.ext'
          simpa using hps
        subst hps'
        refine ⟨.agg z.cells, ?_, ?_, fun k hk => by simp [AV.refs] at hk⟩
        · have hsz := run_sizeOf (hT _ _ (Option.some_get hsome).symm) w
          simp only [Instr.build, Sem.run_bind, hz, Result.andThen_ok, run_underlying q2, hsz]
          simp [Instr.fill]
        · have hag : te.zero.agg = true := by
            obtain ⟨_, _, _, _, _, _, _, _, _, _, k8, _⟩ := hE'
            rw [k8, hd]; rfl
          rcases hzU with ⟨_, cs, rfl, hh⟩ | ⟨hh, _⟩
          · exact RepU.v (.inl ⟨hag, cs, by simp [Value.cells], hh⟩)
          · rw [hag] at hh; cases hh
      · cases h
    · cases h
  · cases h

end
end Go.Sim
