/- What is proved: those operations, run, yield values that hold what the plain function tells. -/
import Derived.Test.YtnhflokfcnfegaaSim14
import Derived.Laws.StructEq
namespace Go.Sim
open Go.RowKit

section
variable {P : Program} {T : Tab} {B F : Nat → Prop} {w0 w : World} {n : Nat} {σ : St} {a : Act} {g : Gh}

theorem slE_ok (hT : TabOk P T) {t e : TypeId} {te : TE} (h : slE T t = some (e, te)) : P.underlying t = some (.slice e) ∧ EntryOk P e te ∧ tget T e = some te := by
  unfold slE at h
  split at h
  · rename_i tt htt
    split at h
    · rename_i e' hd
      split at h
      · rename_i ee hee
        simp only [Option.some.injEq, Prod.mk.injEq] at h
        obtain ⟨rfl, rfl⟩ := h
        obtain ⟨i, d, z, h1, h2, h3, _⟩ := hT t tt htt
        rw [hd] at h3
        cases d <;> simp only [TyD.ok] at h3
        subst h3
        exact ⟨h2, hT _ _ hee, hee⟩
      · cases h
    · cases h
  · cases h

theorem nilT_rep {t : TypeId} {x : AV} {u : Value} (h : RepS w g x u) : RepS w g (nilT T t x) u := by
  unfold nilT
  split
  · split
    · rename_i e te hs
      have := raw_eval h rfl
      subst this
      simp only [RepS, RepV, RepD]
      exact ⟨none, 0, [], rfl, by simp, by simp [RepF], .inl rfl⟩
    · trivial
  · exact h

theorem nilT_refs {t : TypeId} {x : AV} {k : Nat} (h : (nilT T t x).refs k) : x.refs k := by
  unfold nilT at h
  split at h
  · split at h <;> simp [AV.refs] at h
  · exact h

theorem fieldOf_ok (hT : TabOk P T) {s : TypeId} {i fo : Nat} {fe : TE} (h : fieldOf T s i = some (fo, fe)) :
    ∃ (gs : Array Field) (f : Field), P.underlying s = some (.struct gs) ∧ gs[i]? = some f ∧ f.offset = fo ∧ f.type = fieldTy T s i ∧ EntryOk P f.type fe := by
  unfold fieldOf at h
  split at h
  · rename_i te hte
    split at h
    · rename_i fs hd
      split at h
      · rename_i fo' ft hf
        split at h
        · rename_i fe' hfe
          simp only [Option.some.injEq, Prod.mk.injEq] at h
          obtain ⟨rfl, rfl⟩ := h
          obtain ⟨j, d, z, h1, h2, h3, _⟩ := hT s te hte
          rw [hd] at h3
          cases d with
          | struct gs =>
            simp only [TyD.ok] at h3
            subst h3
            simp only [List.getElem?_map, Option.map_eq_some_iff, Prod.mk.injEq] at hf
            obtain ⟨f, hf1, hf2, hf3⟩ := hf
            refine ⟨gs, f, h2, by simpa using hf1, hf2, ?_, by rw [hf3]; exact hT _ _ hfe⟩
            unfold fieldTy
            simp only [hte, hd, List.getElem?_map]
            rw [hf1]
            rfl
          | _ => simp [TyD.ok] at h3
        · cases h
      · cases h
    · cases h
  · cases h

theorem opBin_run (hT : TabOk P T) {op : BinOp} {t : TypeId} {u v : Value} {x : AV} (h : opBin T op t u v = some x) (xo yo : Operand) :
    ∃ r, (do eqGuard op t xo yo u v; binOp op t u v).run P w = .ok r w ∧ RepS w g x r ∧ ∀ k, ¬ x.refs k := by
  unfold opBin at h
  split at h
  · rename_i r hr
    simp only [Option.some.injEq] at h
    subst h
    have h1 : r.oneCell' = true := by
      cases u <;> cases v <;> first
        | (simp [rbin] at hr; done)
        | (cases op <;> simp only [rbin] at hr <;> (repeat' split at hr) <;> first | (cases hr; done) | (simp only [Option.some.injEq] at hr; subst hr; rfl))
    exact ⟨r, by rw [eqGuard_raw hr]; simpa using run_rbin hr w, by simp [RepS, RepV, RepD, h1], fun k hk => by simp [AV.refs] at hk⟩
  · split at h
    · rename_i te hte
      split at h
      · rename_i hd
        obtain ⟨i, d, z, _, hu, hok, _⟩ := hT t te hte
        rw [hd] at hok
        cases d <;> simp only [TyD.ok] at hok
        cases u <;> first | (cases h; done) | skip
        cases v <;> first | (cases h; done) | skip
        rename_i a b hnone
        cases op <;> first | (cases h; done) | skip
        · simp only [Option.some.injEq] at h
          subst h
          exact ⟨.bool (a == b), by rw [eqGuard_at_bool]; simp only [Sem.run_bind, Sem.run_pure, Result.andThen_ok]; exact run_eql_bool w t a b hu, by simp [RepS, RepV, RepD, Value.oneCell'], fun k hk => by simp [AV.refs] at hk⟩
        · simp only [Option.some.injEq] at h
          subst h
          exact ⟨.bool (a != b), by rw [eqGuard_at_bool]; simp only [Sem.run_bind, Sem.run_pure, Result.andThen_ok]; exact run_neq_bool w t a b hu, by simp [RepS, RepV, RepD, Value.oneCell'], fun k hk => by simp [AV.refs] at hk⟩
      · cases h
    · cases h

theorem opFieldAddr_run (hT : TabOk P T) {s : TypeId} {i : Nat} {x y : AV} {u : Value} (hx : RepS w g x u) (h : opFieldAddr T s x i = some y) :
    ∃ r, (Instr.fieldAt s u i).run P w = .ok r w ∧ RepS w g y r ∧ ∀ k, y.refs k → x.refs k := by
  unfold opFieldAddr at h
  split at h
  · rename_i fo fe hf
    split at h
    · cases h
    · rename_i hsz
      obtain ⟨gs, f, hu, hgi, rfl, hty, hE⟩ := fieldOf_ok hT hf
      have hsize : fe.size ≠ 0 := fun e => hsz (by rw [e]; rfl)
      have run : ∀ b o, (Instr.fieldAt s (.pointer (some ⟨b, o, none⟩)) i).run P w = .ok (.pointer (some ⟨b, o + f.offset, none⟩)) w := by
        intro b o
        have hsz' := run_sizeOf hE w
        simp [Instr.fieldAt, run_underlying hu, hgi, Instr.sureAddr, fieldPlace, hsz', hsize, addr_add]
      split at h
      · rename_i id p off
        simp only [Option.some.injEq] at h
        subst h
        simp only [RepS] at hx
        subst hx
        exact ⟨_, run _ _, rfl, fun k hk => hk⟩
      · rename_i ns xs
        split at h
        · rename_i z hz
          split at h
          · rename_i hfo
            simp only [Option.some.injEq] at h
            subst h
            simp only [RepS, RepA] at hx
            obtain ⟨b, o, ds, e, hd, hm⟩ := hx
            simp only [List.cons.injEq, and_true] at e
            subst e
            refine ⟨_, run b o, ?_, fun k hk => hk⟩
            obtain ⟨c1, c2, c3, m, hm1, e, hl1, hl2, hd2, _⟩ := RepF.at hd hz
            have hoff := Nat.eq_of_beq_eq_true hfo
            simp only [RepS, RepA]
            refine ⟨b, o + f.offset, c2, rfl, hd2, ?_⟩
            rcases hm with rfl | ⟨hS, hc⟩
            · left
              have := congrArg List.length e
              simp at this
              exact List.eq_nil_of_length_eq_zero (by omega)
            · refine .inr ⟨hS, fun j v hj => ?_⟩
              have := hc (f.offset + j) v (by
                rw [e, hoff, ← hl1, List.append_assoc, List.getElem?_append_right (by omega), Nat.add_sub_cancel_left]
                rw [List.getElem?_append_left (List.getElem?_eq_some_iff.1 hj).1]; exact hj)
              rwa [← Nat.add_assoc] at this
          · cases h
        · cases h
      · cases h
  · cases h

theorem aggMatch_spec {te : TE} {y : AV} (h : aggMatch te y = true) : te.d.agg = y.agg ∧ (y.agg = true → te.size = y.len) := by
  unfold aggMatch at h
  simp only [Bool.and_eq_true, beq_iff_eq, Bool.or_eq_true, Bool.not_eq_true'] at h
  refine ⟨h.1, fun hy => ?_⟩
  rcases h.2 with h2 | h2
  · rw [hy] at h2; cases h2
  · exact Nat.eq_of_beq_eq_true h2

theorem run_part {t : TypeId} {te : TE} (h : EntryOk P t te) {y : AV} {c1 c2 c3 : List Value} (hy : RepA w g y c2) (hm : aggMatch te y = true) :
    ∃ r, (part t (c1 ++ c2 ++ c3).toArray c1.length).run P w = .ok r w ∧ RepS w g y r := by
  obtain ⟨ha, hs⟩ := aggMatch_spec hm
  have hag := run_isAgg h w
  have hsz := run_sizeOf h w
  unfold part
  rcases RepA.toS hy with ⟨h1, h2⟩ | ⟨h1, u, rfl, h2⟩
  · refine ⟨_, ?_, h2⟩
    have hl : c2.length = te.size := by rw [hs h1]; exact RepA.len hy
    simp [hag, ha, h1, hsz]
    rw [← hl]
    apply List.ext_getElem?
    intro i
    simp
  · refine ⟨u, ?_, h2⟩
    simp [hag, ha, h1]

theorem opField_run (hT : TabOk P T) {s : TypeId} {i : Nat} {x y : AV} {u : Value} (hx : RepS w g x u) (h : opField T s x i = some y) :
    ∃ r, (Instr.field s u i).run P w = .ok r w ∧ RepS w g y r ∧ ∀ k, ¬ y.refs k := by
  unfold opField at h
  split at h
  · rename_i fo fe hf
    split at h
    · rename_i ns xs
      split at h
      · rename_i z hz
        split at h
        · rename_i hc
          simp only [Bool.and_eq_true] at hc
          simp only [Option.some.injEq] at h
          subst h
          obtain ⟨gs, f, hu, hgi, rfl, hty, hE⟩ := fieldOf_ok hT hf
          obtain ⟨cs, rfl, hd⟩ := hx
          simp only [RepD] at hd
          obtain ⟨c1, c2, c3, m, hm1, rfl, hl1, hl2, hd2, _⟩ := RepF.at hd hz
          have hoff := Nat.eq_of_beq_eq_true hc.1
          obtain ⟨r, hr, hrep⟩ := run_part (w := w) (g := g) hE (y := .dat z) (c1 := c1) (c3 := c3) hd2 hc.2
          rw [hl1, ← hoff] at hr
          exact ⟨r, by simp [Instr.field, run_underlying hu, hgi, asAgg] at hr ⊢; exact hr, hrep, fun k hk => by simp [AV.refs] at hk⟩
        · cases h
      · cases h
    · cases h
  · cases h

end
end Go.Sim
