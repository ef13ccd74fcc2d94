/- What is proved: cuts of shared slices, equality of structs and arrays, and one's own slices handed over to be shared. -/
import Derived.Test.YtnhflokfcnfegaaSim22
namespace Go.Sim
open Go.RowKit

section
variable {P : Program} {T : Tab} {σ : St}

theorem RepF.replicate {w : World} {S : Nat → Prop} {xs : List DV} {m sz : Nat} {cs : List Value} (h : RepF w S xs (List.replicate m sz) cs) : m = xs.length := by
  have := (RepF.length h).2
  simpa using this.symm

theorem RepF.splitR {w : World} {S : Nat → Prop} {xs ys : List DV} {m sz : Nat} {cs : List Value} (h : RepF w S (xs ++ ys) (List.replicate m sz) cs) :
    ∃ c1 c2, cs = c1 ++ c2 ∧ RepF w S xs (List.replicate xs.length sz) c1 ∧ RepF w S ys (List.replicate ys.length sz) c2 ∧ c1.length = xs.length * sz ∧ c2.length = ys.length * sz := by
  obtain ⟨n1, n2, c1, c2, hn, hc, hl, h1, h2⟩ := RepF.split h
  have e1 : n1 = List.replicate xs.length sz := by
    refine List.eq_replicate_iff.2 ⟨hl, fun b hb => ?_⟩
    have : b ∈ List.replicate m sz := by rw [hn]; simp [hb]
    exact (List.mem_replicate.1 this).2
  have e2 : n2 = List.replicate ys.length sz := by
    refine List.eq_replicate_iff.2 ⟨?_, fun b hb => ?_⟩
    · exact (RepF.length h2).2.symm
    · have : b ∈ List.replicate m sz := by rw [hn]; simp [hb]
      exact (List.mem_replicate.1 this).2
  rw [e1] at h1
  rw [e2] at h2
  refine ⟨c1, c2, hc, h1, h2, ?_, ?_⟩
  · rw [(RepF.length h1).1]; simp
  · rw [(RepF.length h2).1]; simp

/-- What bounds a cut names: from 'l' to 'h'. -/
def loOk (σ : St) : Option Operand → Nat → Prop
  | none, l => l = 0
  | some x, l => ∃ k, ev σ x = .dat (.v (.int k l))
def hiOk (σ : St) (n : Nat) : Option Operand → Nat → Prop
  | none, h => h = n
  | some x, h => ∃ k, ev σ x = .dat (.v (.int k h))

theorem sl_cut {w : World} {S : Nat → Prop} {ad : Option Addr} {cc : Nat} {row : List Value} {E : TypeId} {sz : Nat} {xs : List DV} {l h : Nat} (hl : xs.length ≤ cc) (hF : RepF w S xs (List.replicate xs.length sz) row)
    (hm : row = [] ∨ ∃ b o, ad = some ⟨b, o, none⟩ ∧ S b ∧ ∀ j u, row[j]? = some u → w.cell? ⟨b, o + j, none⟩ = some u) (h1 : l ≤ h) (h2 : h ≤ xs.length) :
    RepD w S (.sl E sz ((xs.drop l).take (h - l))) [sliced ad l h cc sz] := by
  have hx : xs = xs.take l ++ ((xs.drop l).take (h - l) ++ (xs.drop l).drop (h - l)) := by rw [List.take_append_drop, List.take_append_drop]
  have hF' := hF
  rw [hx] at hF'
  obtain ⟨c1, c2, e1, k1, k2, k3, k4⟩ := RepF.splitR hF'
  obtain ⟨d1, d2, e2, m1, m2, m3, m4⟩ := RepF.splitR k2
  have len : ((xs.drop l).take (h - l)).length = h - l := by simp; omega
  have len0 : (xs.take l).length = l := by simp; omega
  simp only [RepD, sliced]
  refine ⟨_, _, d1, by rw [len], by rw [len]; omega, m1, ?_⟩
  rcases hm with rfl | ⟨b, o, rfl, hS, hc⟩
  · refine .inl ?_
    have := congrArg List.length e1
    rw [e2] at this
    simp at this
    exact List.eq_nil_of_length_eq_zero (by omega)
  · by_cases hlh : l = h
    · refine .inl (List.eq_nil_of_length_eq_zero ?_)
      rw [m3, len, hlh]; simp
    · refine .inr ⟨b, o + l * sz, ?_, hS, fun j u hj => ?_⟩
      · rw [if_neg (by omega)]; simp [addr_add]
      · have := hc (l * sz + j) u (by
          rw [e1, e2, List.getElem?_append_right (by rw [k3, len0]; omega), k3, len0, Nat.add_sub_cancel_left, List.getElem?_append_left (List.getElem?_eq_some_iff.1 hj).1]
          exact hj)
        rwa [← Nat.add_assoc] at this

/-- A cut of a shared slice. -/
theorem Step.cut (hT : TabOk P T) {c : Bool} {o : Oper} {t E E' : TypeId} {te : TE} {x : Operand} {lo hi : Option Operand} {l h : Nat} {xs : List DV} (ho : o.op = .slice t x lo hi none) (hs : slE T t = some (E, te))
    (hx : ev σ x = .dat (.sl E' te.size xs)) (hlo : loOk σ lo l) (hhi : hiOk σ xs.length hi h) (h1 : l ≤ h) (h2 : h ≤ xs.length) : Step P c σ o ⟨.dat (.sl E' te.size ((xs.drop l).take (h - l))), []⟩ := by
  refine Step.value (fun σ' hA B F w0 n a w g rr => ?_) (fun _ _ _ k hk => by simp [AV.refs] at hk)
  have hev := ev_rep rr x
  rw [hA.1 x (by simp [ho, Op.operands]), hx] at hev
  simp only [RepS, RepV, RepD] at hev
  obtain ⟨ad, cc, row, e1, hl, hF, hm⟩ := hev
  simp only [List.cons.injEq, and_true] at e1
  obtain ⟨hu, hE, _⟩ := slE_ok hT hs
  have hsz := run_sizeOf hE w
  have hel : P.elem t = E := by simp [Program.elem, hu]
  have hu' : P.underlying t = some (.slice (P.elem t)) := by rw [hel]; exact hu
  refine ⟨sliced ad l h cc te.size, ?_, by simp only [RepS, RepV]; exact sl_cut hl hF hm h1 h2⟩
  have evl : ∀ y m, lo = some y → (∃ k, ev σ y = .dat (.v (.int k m))) → ∃ k, a.eval y = .int k m := fun y m hy ⟨k, hk⟩ => ⟨k, raw_eval (ev_rep rr y) (by rw [hA.1 y (by simp [ho, hy, Op.operands]), hk]; rfl)⟩
  have evh : ∀ y m, hi = some y → (∃ k, ev σ y = .dat (.v (.int k m))) → ∃ k, a.eval y = .int k m := fun y m hy ⟨k, hk⟩ => ⟨k, raw_eval (ev_rep rr y) (by rw [hA.1 y (by simp [ho, hy, Op.operands]), hk]; rfl)⟩
  have hsl := run_sliceAt_slice (P := P) w t (.slice ad xs.length cc) (lo.map a.eval) (hi.map a.eval) none hu'
  have key : (Instr.slice t (.slice ad xs.length cc) (lo.map a.eval) (hi.map a.eval) none).run P w = .ok (sliced ad l h cc te.size) w := by
    cases lo with
    | none =>
      simp only [loOk] at hlo
      subst hlo
      cases hi with
      | none =>
        simp only [hiOk] at hhi
        subst hhi
        simp only [Option.map_none]; rw [run_slice_all w t ad _ cc hu', hel, hsz]; rfl
      | some y =>
        obtain ⟨k, hk⟩ := evh y h rfl hhi
        simp only [Option.map_none, Option.map_some]; rw [hk, run_slice_h w t ad _ cc hu' k _ (by omega) (by omega), hel, hsz]; rfl
    | some z =>
      obtain ⟨k, hk⟩ := evl z l rfl hlo
      cases hi with
      | none =>
        simp only [hiOk] at hhi
        subst hhi
        simp only [Option.map_none, Option.map_some]; rw [hk, run_slice_l w t ad _ cc hu' k _ (by omega) (by omega), hel, hsz]; rfl
      | some y =>
        obtain ⟨k', hk'⟩ := evh y h rfl hhi
        simp only [Option.map_some]; rw [hk, hk', run_slice_lh w t ad _ cc hu' k k' _ _ (by omega) (by omega) (by omega), hel, hsz]; rfl
  rw [← hsl] at key
  simp only [execOp, ho, e1, Option.map_none, Sem.run_bind, key, Result.andThen_ok, Sem.run_pure]

/-! ### Equality -/

def EqOk (P : Program) (d : Nat) (t : TypeId) (x y : DV) (b : Bool) : Prop :=
  ∀ (w : World) (S : Nat → Prop) (u v : Value), RepV w S x u → RepV w S y v → (Op.equalIn d t u v).run P w = .ok b w

theorem EqOk.int {d : Nat} {t : TypeId} {te : TE} {k k' : IntKind} {a b : Int} (h : EntryOk P t te) (hd : te.d = .int k) : EqOk P (d + 1) t (.v (.int k' a)) (.v (.int k' b)) (a == b) := by
  intro w S u v hu hv
  obtain ⟨i, ds, z, q1, q2, q3, _⟩ := h
  rw [hd] at q3
  cases ds <;> simp only [TyD.ok] at q3
  simp only [RepV, RepD, List.cons.injEq, and_true] at hu hv
  rw [hu.1, hv.1]
  exact run_equalIn_int w d t k' _ a b q2

theorem EqOk.bool {d : Nat} {t : TypeId} {te : TE} {a b : Bool} (h : EntryOk P t te) (hd : te.d = .bool) : EqOk P (d + 1) t (.v (.bool a)) (.v (.bool b)) (a == b) := by
  intro w S u v hu hv
  obtain ⟨i, ds, z, q1, q2, q3, _⟩ := h
  rw [hd] at q3
  cases ds <;> simp only [TyD.ok] at q3
  simp only [RepV, RepD, List.cons.injEq, and_true] at hu hv
  rw [hu.1, hv.1]
  exact run_equalIn_bool w d t a b q2

theorem EqOk.str {d : Nat} {t : TypeId} {te : TE} {a b : ByteArray} (h : EntryOk P t te) (hd : te.d = .str) : EqOk P (d + 1) t (.v (.string a)) (.v (.string b)) (a.toList == b.toList) := by
  intro w S u v hu hv
  obtain ⟨i, ds, z, q1, q2, q3, _⟩ := h
  rw [hd] at q3
  cases ds <;> simp only [TyD.ok] at q3
  simp only [RepV, RepD, List.cons.injEq, and_true] at hu hv
  rw [hu.1, hv.1]
  exact run_equalIn_string w d t a b q2

def EqF (P : Program) (T : Tab) (d : Nat) : List Field → Nat → List Nat → List DV → List DV → Bool → Prop
  | [], _, [], [], [], b => b = true
  | f :: gs, off, n :: ns, x :: xs, y :: ys, b => f.name ≠ "_" ∧ f.offset = off ∧ (∃ te, tget T f.type = some te ∧ aggMatch te (.dat x) = true ∧ aggMatch te (.dat y) = true) ∧
      ∃ b1 b2, EqOk P d f.type x y b1 ∧ EqF P T d gs (off + n) ns xs ys b2 ∧ b = (b1 && b2)
  | _, _, _, _, _, _ => False

theorem eqF_run (hT : TabOk P T) {d : Nat} {w : World} {S : Nat → Prop} : ∀ (gs : List Field) (off : Nat) (ns : List Nat) (xs ys : List DV) (b : Bool) (p q c e : List Value), EqF P T d gs off ns xs ys b → p.length = off → q.length = off →
    RepF w S xs ns c → RepF w S ys ns e → (Op.eqFields d (p ++ c).toArray (q ++ e).toArray gs).run P w = .ok b w
  | [], _, [], [], [], b, p, q, c, e, h, _, _, _, _ => by simp only [EqF] at h; subst h; simp [Op.eqFields]
  | f :: gs, off, n :: ns, x :: xs, y :: ys, b, p, q, c, e, h, hp, hq, hx, hy => by
    simp only [EqF] at h
    obtain ⟨h1, h2, ⟨te, h3, h4, h5⟩, b1, b2, h6, h7, rfl⟩ := h
    simp only [RepF] at hx hy
    obtain ⟨n', ns', c1, c2, e1, rfl, hl1, hx1, hx2⟩ := hx
    obtain ⟨n'', ns'', d1, d2, e2, rfl, hl2, hy1, hy2⟩ := hy
    cases e1
    cases e2
    let g : Gh := { S := S, blk := fun _ => 0, hdr := fun _ => .bool true, has := fun _ => False }
    obtain ⟨r1, hr1, rep1⟩ := run_part (w := w) (g := g) (hT _ _ h3) (y := .dat x) (c1 := p) (c2 := c1) (c3 := c2) hx1 h4
    obtain ⟨r2, hr2, rep2⟩ := run_part (w := w) (g := g) (hT _ _ h3) (y := .dat y) (c1 := q) (c2 := d1) (c3 := d2) hy1 h5
    rw [hp, ← h2, List.append_assoc] at hr1
    rw [hq, ← h2, List.append_assoc] at hr2
    have ih := eqF_run hT gs (off + n) ns xs ys b2 (p ++ c1) (q ++ d1) c2 d2 h7 (by simp [hp, hl1]) (by simp [hq, hl2]) hx2 hy2
    rw [List.append_assoc, List.append_assoc] at ih
    simp only [Op.eqFields, if_pos h1, Sem.run_bind, hr1, hr2, Result.andThen_ok, h6 w S r1 r2 rep1 rep2]
    cases b1
    · simp
    · simp [ih]
  | [], _, _ :: _, _, _, _, _, _, _, _, h, _, _, _, _ => by simp [EqF] at h
  | [], _, [], _ :: _, _, _, _, _, _, _, h, _, _, _, _ => by simp [EqF] at h
  | [], _, [], [], _ :: _, _, _, _, _, _, h, _, _, _, _ => by simp [EqF] at h
  | _ :: _, _, [], _, _, _, _, _, _, _, h, _, _, _, _ => by simp [EqF] at h
  | _ :: _, _, _ :: _, [], _, _, _, _, _, _, h, _, _, _, _ => by simp [EqF] at h
  | _ :: _, _, _ :: _, _ :: _, [], _, _, _, _, _, h, _, _, _, _ => by simp [EqF] at h

theorem EqOk.struct (hT : TabOk P T) {d : Nat} {t : TypeId} {ns : List Nat} {xs ys : List DV} {b : Bool} (hu : P.underlying t = some (.struct (P.fieldsOf t))) (hs : P.stoodInHeld t = false) (h : EqF P T d (P.fieldsOf t).toList 0 ns xs ys b) :
    EqOk P (d + 1) t (.st ns xs) (.st ns ys) b := by
  intro w S u v hu' hv'
  obtain ⟨cs, rfl, hx⟩ := hu'
  obtain ⟨ds, rfl, hy⟩ := hv'
  simp only [RepD] at hx hy
  rw [run_equalIn_struct w d t _ _ hu hs]
  exact eqF_run hT _ 0 ns xs ys b [] [] cs ds h rfl rfl hx hy

/-- Elements of arrays, from the place 'i' on. -/
def EqA (P : Program) (T : Tab) (d : Nat) (e : TypeId) : List DV → List DV → Bool → Prop
  | [], [], b => b = true
  | x :: xs, y :: ys, b => (∃ te, tget T e = some te ∧ aggMatch te (.dat x) = true ∧ aggMatch te (.dat y) = true) ∧ ∃ b1 b2, EqOk P d e x y b1 ∧ EqA P T d e xs ys b2 ∧ b = (b1 && b2)
  | _, _, _ => False

/-- Structs and arrays that are compared. -/
theorem Step.eqst {c : Bool} {o : Oper} {op : BinOp} {t t' : TypeId} {x y : Operand} {u v : DV} {b : Bool} (hop : op = .eql ∨ op = .neq) (ho : o.op = .binOp op t x y t') (hx : ev σ x = .dat u) (hy : ev σ y = .dat v) (hu : u.agg = true) (hv : v.agg = true)
    (hg : P.eqGuardType P.depth t = false) (h : EqOk P 10000 t u v b) : Step P c σ o ⟨.dat (.v (.bool (if op = .neq then !b else b))), []⟩ := by
  refine Step.value (fun σ' hA B F w0 n a w g rr => ?_) (fun _ _ _ k hk => by simp [AV.refs] at hk)
  have hevx := ev_rep rr x
  rw [hA.1 x (by simp [ho, Op.operands]), hx] at hevx
  have hevy := ev_rep rr y
  rw [hA.1 y (by simp [ho, Op.operands]), hy] at hevy
  simp only [RepS] at hevx hevy
  have hr := h w g.S _ _ hevx hevy
  have ag : ∀ z u', z.agg = true → RepV w g.S z u' → ∃ cs : List Value, u' = .agg cs.toArray := fun z u' hz hr => by
    cases z <;> simp [DV.agg] at hz
    · obtain ⟨cs, e, _⟩ := hr; exact ⟨cs, e⟩
    · obtain ⟨cs, e, _⟩ := hr; exact ⟨cs, e⟩
  obtain ⟨cs, e1⟩ := ag u _ hu hevx
  obtain ⟨ds, e2⟩ := ag v _ hv hevy
  rw [e1, e2] at hr
  refine ⟨.bool (if op = .neq then !b else b), ?_, rep_raw rfl⟩
  rcases hop with rfl | rfl
  · simp only [execOp, ho, e1, e2, Sem.run_bind, run_eqGuard_agg w _ _ _ _ _ _ hg, Result.andThen_ok, run_eql_struct, hr, Sem.run_pure]
    simp
  · simp only [execOp, ho, e1, e2, Sem.run_bind, run_eqGuard_agg w _ _ _ _ _ _ hg, Result.andThen_ok, run_neq_struct, hr, Sem.run_pure]
    simp

end
end Go.Sim
