/- What is proved: structs with an own slice as a field: one that begins as nil; what it holds becomes data again. -/
import Derived.Test.YtifjflhnfjhijaaGreatDoorZPSSimQ

namespace Go.Sim
open Go.RowKit
theorem qPp {T : Tab} {s : TypeId} {ns : List Nat} {σ : St} {d : Nat} {ob : Obj} : ∀ (ps : List (Nat × Operand)) (xs : List AV), q7m T s (σ.set d ob) ns ps xs = q7m T s σ ns ps xs := fun ps xs =>
 q7n ps xs fun p _ => by cases p.2 <;> rfl
section
variable {P : Program} {N : Value -> Prop} {T : Tab} {σ : St}
theorem Step.buildnil (hT : q0r P T) {c : Bool} {o : Oper} {d : Nat} {t : TypeId} {ps : Array (Nat × Operand)} {te : TE} {fs : List (Nat × TypeId)} {ns : List Nat} {zs : List DV} {cs : List Value} {j : Nat} {E : TypeId} {sz : Nat} {z : DV} {ys : List AV}
    (ho : o.op = .build t ps) (hd : o.dst = some d) (hn : σ.obj d = none) (ht : tget T t = some te) (hs : te.d = .struct fs) (hz : te.zero = .st ns zs) (hall : fs.all (fun f => (tget T f.2).isSome) = true)
    (hf : flat te.zero = some cs) (hc : cs[(ns.take j).sum]? = some (.slice none 0 0)) (hzj : zs[j]? = some z) (hnj : ns[j]? = some 1) (hb : q7m T t σ ns ps.toList ((zs.map .dat).set j (.oref d)) = some ys) :
    Step P N c σ o ⟨.st ns ys, [(d, .row E sz [])]⟩ where
  ok := by
    rintro σ' hA B F w0 n a w hdn ⟨g, r⟩ Q _
    have hn' := hA.2.1 d hd hn
    have hb' : q7m T t σ' ns ps.toList ((zs.map .dat).set j (.oref d)) = some ys := by
      rw [q7n ps.toList _ fun p hp => hA.1 p.2 (by
        rw [ho]; simp only [Op.operands, List.mem_toArray]
        exact List.mem_map.2 ⟨p, hp, rfl⟩)]
      exact hb
    have r' := r.nilrow hn' E sz
    have hE := hT t te ht
    have hE' := hE
    obtain ⟨i, dd, zv, q1, q2, q3, _, _, q6, q7, q8, q9, _⟩ := hE
    have hzr : (zeroValue t).run P w = .ok zv w := by simp [zeroValue, typeInfo, q1, q6]
    have hzU : RepU w g.S te.zero zv := RepU.of_flat q7 q8 q9
    rw [hs] at q3
    cases dd <;> simp only [TyD.ok] at q3
    rename_i gs
    obtain ⟨places, hp1, hp2⟩ := qFe (P := P) (w := w) gs.toList (fun f hf => by
      rw [← q3] at hall
      simp only [List.all_eq_true, List.mem_map] at hall
      have := hall _ ⟨f, hf, rfl⟩
      obtain ⟨fe, hfe⟩ := Option.isSome_iff_exists.1 this
      exact ⟨fe, hT _ _ hfe⟩)
    have hz0 : RepAF w g (zs.map .dat) ns zv.cells.toList := by
      have := hzU.cells
      rw [hz] at this
      exact RepAF.of_F this
    have hcs : zv.cells.toList = cs := by rw [hf] at q7; exact (Option.some.inj q7).symm
    obtain ⟨c1, c2, c3, m, hm, e, hl1, hl2, _, hput⟩ := RepAF.at hz0 (show (zs.map AV.dat)[j]? = some (AV.dat z) by rw [List.getElem?_map, hzj]; rfl)
    rw [hnj] at hm
    obtain rfl : m = 1 := (Option.some.inj hm).symm
    have hc2 : c2 = [.slice none 0 0] := by
      rw [hcs] at e
      rw [e, ← hl1, List.append_assoc, List.getElem?_append_right (Nat.le_refl _), Nat.sub_self] at hc
      match c2, hl2 with
      | [u], _ => simp at hc; rw [hc]
    have hst : RepAF w { g with hdr := upd g.hdr d (.slice none 0 0), has := upd g.has d False } ((zs.map .dat).set j (.oref d)) ns zv.cells.toList := by
      have h5 := hput (fun x => ∃ y, x = .dat y) w { g with hdr := upd g.hdr d (.slice none 0 0), has := upd g.has d False } (.oref d) c2 (fun x hx => by obtain ⟨y, _, rfl⟩ := List.mem_map.1 hx; exact ⟨y, rfl⟩)
        (fun x cc hx hr => by obtain ⟨y, rfl⟩ := hx; exact hr) hl2 (by simp only [RepA]; rw [hc2]; simp [q0b])
      rw [e]; exact h5
    obtain ⟨cells', h1, h2, h3⟩ := qFf hT r' q2 hp2 ps.toList _ ys zv.cells hst (by rw [qPp]; exact hb')
    unfold Oper.wp
    have e0 : (gs.mapM fun f => (do Pure.pure (f.offset, ← sizeOf f.type) : Sem (Nat × Nat))).run P w = .ok places.toArray w := by
      have e' : gs = gs.toList.toArray := by simp
      rw [e', List.mapM_toArray, Sem.run_map, hp1]
      rfl
    have e2 : (ps.map fun (x : Nat × Operand) => (x.1, a.eval x.2)).toList = ps.toList.map fun p => (p.1, a.eval p.2) := by simp
    have hrun : (Instr.build t (ps.map fun (i, x) => (i, a.eval x))).run P w = .ok (.agg cells') w := by
      simp only [Instr.build, Sem.run_bind, hzr, Result.andThen_ok, run_underlying q2, e0, e2, h1, Sem.run_pure]
    have hrun2 : (execOp a.eval o).run P w = .ok (.value (.agg cells')) w := by
      simp [execOp, ho, hrun]
    rw [hrun2, Oper.upon_value, hd]
    refine ⟨_, r'.put (x := .st ns ys) ⟨cells'.toList, by simp, by simp only [RepA]; exact h2⟩ (fun k hk => ?_) (hdn d hd)⟩
    simp only [AV.refs] at hk
    rcases h3 k hk with h | h
    · rcases q8o h with h | h
      · exact absurd h (q5v zs k)
      · simp only [AV.refs] at h; rw [h, St.obj_set, if_pos rfl]; simp
    · exact h
  objs := fun p hp => by simp only [List.mem_singleton] at hp; subst hp; exact .inl ⟨hd, hn⟩
  okk := fun σ' hA ok => by
    rw [hd]
    refine qOf ok (fun _ _ _ e => by cases e) (fun k hk => ?_)
    simp only [AV.refs] at hk
    have hb' : q7m T t σ' ns ps.toList ((zs.map .dat).set j (.oref d)) = some ys := by
      rw [q7n ps.toList _ fun p hp => hA.1 p.2 (by
        rw [ho]; simp only [Op.operands, List.mem_toArray]
        exact List.mem_map.2 ⟨p, hp, rfl⟩)]
      exact hb
    rcases qDw ok ps.toList _ ys hb' k hk with h | h
    · rcases q8o h with h | h
      · exact absurd h (q5v zs k)
      · simp only [AV.refs] at h; exact .inl h
    · exact .inr h
  near := fun y h => by rw [ho] at h; simp [carry] at h
  made := fun h => by rw [ho] at h; simp [makes] at h
end
section
variable {P : Program} {T : Tab} {ops : Array Oper} {cf : Oper -> Bool} {K : q1f -> St -> Prop} {o : Oper} {rest : List Oper} {L : List (Nat × AV)} {O : List (Nat × Obj)} {d : Nat}
theorem AOps.buildnil (hT : q0r P T) {t : TypeId} {ps : Array (Nat × Operand)} {te : TE} {fs : List (Nat × TypeId)} {ns : List Nat} {zs : List DV} {cs : List Value} (j : Nat) (E : TypeId) (sz : Nat) {z : DV} {ys : List AV}
    (ho : o.op = .build t ps) (hd : o.dst = some d) (hg : gOn ops L o = true) (hn : q0v O d = none) (ht : tget T t = some te) (hs : te.d = .struct fs) (hz : te.zero = .st ns zs) (hall : fs.all (fun f => (tget T f.2).isSome) = true)
    (hf : flat te.zero = some cs) (hc : cs[(ns.take j).sum]? = some (.slice none 0 0)) (hzj : zs[j]? = some z) (hnj : ns[j]? = some 1) (hb : q7m T t (mkSt L O) ns ps.toList ((zs.map .dat).set j (.oref d)) = some ys)
    (k : AOps P ops cf K rest (mkSt ((d, .st ns ys) :: L) ((d, .row E sz []) :: O))) : AOps P ops cf K (o :: rest) (mkSt L O) :=
  AOps.eff hg (Step.buildnil hT (E := E) (sz := sz) ho hd hn ht hs hz hall hf hc hzj hnj hb) (by rw [hd]; exact k)
end
theorem RelG.putbox {B : Nat -> Nat -> Prop} {F : Cx} {w0 w : World} {n : Nat} {σ : St} {a : Act} {g : Gh} (h : RelG B F w0 n σ a w g) {id : Nat} {Ty : TypeId} {sz : Nat} {x y : AV} (hob : σ.obj id = some (.box Ty sz x))
    (hy : ∀ cs, RepA w g x cs -> RepA w g y cs) (hr : ∀ k, y.refs k -> σ.obj k ≠ none) : RelG B F w0 n (σ.set id (.box Ty sz y)) a w g := by
  refine { os := h.os, tape := h.tape, output := h.output, size := h.size, old := h.old, n := h.n, nlt := h.nlt, glob := h.glob, defers := h.defers, sF := h.sF, sB := h.sB, own := h.own, dj := h.dj, slots := h.slots, objs := fun i => ?_, ok := q50 h.ok (fun _ _ _ e k hk => by cases e; exact hr k hk), hv := h.hv, sub := h.sub }
  rw [St.obj_set]
  by_cases he : i = id
  · subst he
    rw [if_pos rfl]
    have hO := h.objs i
    rw [hob] at hO
    simp only [RepO] at hO ⊢
    obtain ⟨m1, cur, m2, m3, m4⟩ := hO
    exact ⟨m1, cur, m2, m3, hy _ m4⟩
  · rw [if_neg he]; exact h.objs i
theorem AWp.freezeB {P : Program} {B : Nat -> Nat -> Prop} {n : Nat} {c : Code} {Q : q1f -> St -> Prop} {L : List (Nat × AV)} {O : List (Nat × Obj)} (i id j : Nat) {Ty : TypeId} {bz : Nat} {ns : List Nat} {xs : List AV} {zs : List DV} {E : TypeId} {sz : Nat} {ds : List DV}
    (hob : q0v O i = some (.box Ty bz (.st ns xs))) (hx : xs[j]? = some (.oref id)) (ho : q0v O id = some (.row E sz ds)) (ha : qB6 (xs.set j (.dat (.sl E sz ds))) = some zs) (hne : Nat.beq i id = false)
    (h : AWp P B n c (mkSt L ((i, .box Ty bz (.dat (.st ns zs))) :: (id, .gone) :: O)) Q) (hid : id < 1000000 := by decide) : AWp P B n c (mkSt L O) Q := by
  rintro F w0 a w ⟨g, r⟩
  obtain ⟨r', hrep⟩ := r.freeze hid ho
  have hne' : i ≠ id := fun e => by subst e; simp at hne
  have hob' : ((mkSt L O).set id .gone).obj i = some (.box Ty bz (.st ns xs)) := by rw [St.obj_set, if_neg hne']; exact hob
  have r2 := r'.putbox (y := .dat (.st ns zs)) hob' (fun cs hcs => by
    simp only [RepA] at hcs ⊢
    obtain ⟨c1, c2, c3, m, hm, e, hl1, hl2, hd2, hput⟩ := RepAF.at hcs hx
    simp only [RepA] at hd2
    have h5 := hput (fun _ => True) w _ (.dat (.sl E sz ds)) c2 (fun _ _ => trivial) (fun _ _ _ h => h) hl2 (by simp only [RepA]; rw [hd2]; exact hrep)
    rw [← e] at h5
    rw [qDv ha] at h5
    simp only [RepD]
    exact RepAF.to_F h5) (fun k hk => by simp [AV.refs] at hk)
  refine h F w0 a w ⟨_, { os := r2.os, tape := r2.tape, output := r2.output, size := r2.size, old := r2.old, n := r2.n, nlt := r2.nlt, glob := r2.glob, defers := r2.defers, sF := r2.sF, sB := r2.sB, own := r2.own, dj := r2.dj, slots := r2.slots, objs := fun k => ?_, ok := ?_, hv := r2.hv, sub := r2.sub }⟩
  · have := r2.objs k
    rw [St.obj_set, St.obj_set] at this
    simp only [mkSt, q0v] at this ⊢
    by_cases h1 : k = i
    · subst h1; rw [if_pos rfl] at this; simpa using this
    · by_cases h2 : k = id
      · subst h2
        rw [if_neg h1, if_pos rfl] at this
        have hb : Nat.beq k i = false := by
          cases he : Nat.beq k i with
          | false => rfl
          | true => exact absurd (Nat.eq_of_beq_eq_true he) h1
        simpa [hb] using this
      · rw [if_neg h1, if_neg h2] at this
        have hb : Nat.beq k i = false := by
          cases he : Nat.beq k i with
          | false => rfl
          | true => exact absurd (Nat.eq_of_beq_eq_true he) h1
        have hb2 : Nat.beq k id = false := by
          cases he : Nat.beq k id with
          | false => rfl
          | true => exact absurd (Nat.eq_of_beq_eq_true he) h2
        simpa [hb, hb2] using this
  · have e : mkSt L ((i, .box Ty bz (.dat (.st ns zs))) :: (id, .gone) :: O) = ((mkSt L O).set id .gone).set i (.box Ty bz (.dat (.st ns zs))) := by
      refine St.ext (fun _ => rfl) fun k => ?_
      simp only [mkSt, q0v, St.set]
    rw [e]; exact r2.ok
end Go.Sim
