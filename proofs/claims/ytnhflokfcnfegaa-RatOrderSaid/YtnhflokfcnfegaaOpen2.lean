/- What is proved: from a statement's reading of its arguments to closed data, and back behind the call. -/
import Derived.Test.YtnhflokfcnfegaaOpen1
import Derived.Test.YtnhflokfcnfegaaSim28
namespace Go.Sim
open Go.RowKit Go.ChangeShapes Go.WideShapes

/-- Data that fit the types of a list. -/
def ConfAll (T : Tab) : List DV → List TypeId → Prop
  | [], [] => True
  | x :: xs, t :: ts => Conf T x t ∧ ConfAll T xs ts
  | _, _ => False

section
variable {P : Program} {T : Tab} {H : Type} {enc : TypeId × Value → H} {w : World}

theorem cells_one {v u : Value} (h : v.oneCell' = true) (e : v.cells.toList = [u]) : v = u := by
  cases v <;> simp_all [Value.cells, Value.oneCell']

theorem val_rep (hT : TabOk P T) {good : List TypeId} (hg : goodB T good = true) {r : Reach} {b : Nat} {t : TypeId} {v : Value} {d : DataW H} {ps : List MemPlace} (ht : t ∈ good) (hv : Value.okWide P w r b t v)
    (h : DataW.Trod enc P w 0 (fun _ => true) true t v d ps) : ∃ x, RepV w (fun _ => True) x v ∧ Conf T x t := by
  obtain ⟨fuel, h⟩ := h
  obtain ⟨x, hx, hc⟩ := trod_rep hT hg rfl fuel t _ _ ht h
  refine ⟨x, ?_, hc⟩
  obtain ⟨te, hte, hs⟩ := goodB_spec hg ht
  obtain ⟨i, d0, z, q1, q2, q3, q4, _⟩ := hT t te hte
  cases x with
  | tup xs => simp [RepD] at hx
  | pd x => simp [Conf] at hc
  | fn f xs => simp [Conf] at hc
  | st ns xs =>
    simp only [Conf] at hc
    obtain ⟨te', fs, h1, h2, _⟩ := hc
    rw [hte] at h1; cases h1
    rw [h2] at q3
    cases d0 <;> simp only [TyD.ok] at q3
    obtain ⟨cs, rfl, _⟩ := okWide_struct q2 hv
    exact ⟨cs.toList, by simp, by simpa [Value.cells] using hx⟩
  | ar sz xs =>
    simp only [Conf] at hc
    obtain ⟨te', n, e, ee, h1, h2, _⟩ := hc
    rw [hte] at h1; cases h1
    rw [h2] at q3
    cases d0 <;> simp only [TyD.ok] at q3
    simp only [Value.okWide, q2] at hv
    obtain ⟨cs, rfl, _⟩ := hv
    exact ⟨cs.toList, by simp, by simpa [Value.cells] using hx⟩
  | v y =>
    simp only [RepD] at hx
    simp only [RepV, RepD]
    refine ⟨?_, hx.2⟩
    simp only [Conf] at hc
    obtain ⟨te', h1, h2⟩ := hc
    rw [hte] at h1; cases h1
    cases hd : te.d <;> rw [hd] at h2 q3 <;> cases y <;> simp only [] at h2 <;> cases d0 <;> simp only [TyD.ok] at q3
    · obtain ⟨n, rfl⟩ := okWide_int q2 hv; rw [cells_one rfl hx.1]
    · obtain ⟨n, rfl⟩ := okWide_bool q2 hv; rw [cells_one rfl hx.1]
    · obtain ⟨n, rfl⟩ := okWide_string q2 hv; rw [cells_one rfl hx.1]
    · have : v.oneCell' = true := by
        simp only [Value.okWide, q2, Cell.okWide, Cell.ok] at hv
        cases v <;> simp_all [Value.oneCell']
      rw [cells_one this hx.1]
  | sl E sz xs =>
    have hx' := hx
    simp only [RepD] at hx
    obtain ⟨a, c, row, e, _⟩ := hx
    simp only [Conf] at hc
    obtain ⟨te', ee, h1, h2, _⟩ := hc
    rw [hte] at h1; cases h1
    rw [h2] at q3
    cases d0 <;> simp only [TyD.ok] at q3
    obtain ⟨a', l', c', rfl⟩ := okWide_slice q2 hv
    simp only [RepV]
    simpa [Value.cells] using hx'

theorem args_rep (hT : TabOk P T) {good : List TypeId} (hg : goodB T good = true) {r : Reach} {b : Nat} : ∀ (ts : List TypeId) (vs : List Value) (ds : List (DataW H)) (ps : List MemPlace), (∀ t ∈ ts, t ∈ good) →
    (∀ (j : Nat) t v, ts[j]? = some t → vs[j]? = some v → Value.okWide P w r b t v) → DataW.TrodAll enc P w 0 (fun _ => true) true ts vs ds ps → ∃ xs, All2 (RepV w (fun _ => True)) xs vs ∧ ConfAll T xs ts
  | [], vs, ds, ps, _, _, h => by
    obtain ⟨rfl, _, _⟩ := trodAll_nil h
    exact ⟨[], .nil, trivial⟩
  | t :: ts, vs, ds, ps, hts, hval, h => by
    obtain ⟨v, vs', d, ds', p, q, rfl, rfl, rfl, h1, h2⟩ := trodAll_cons h
    obtain ⟨x, hx, hc⟩ := val_rep hT hg (hts t (by simp)) (hval 0 t v rfl rfl) h1
    obtain ⟨xs, hxs, hcs⟩ := args_rep hT hg ts vs' ds' q (fun t' ht' => hts t' (by simp [ht'])) (fun j t' v' h3 h4 => hval (j + 1) t' v' (by simpa using h3) (by simpa using h4)) h2
    exact ⟨x :: xs, .cons hx hxs, hc, hcs⟩

theorem args_stay (hl : laidOutB P = true) {W W' : World} (hb : Below W.heap.size W W') : ∀ (ts : List TypeId) (vs : List Value) (ds : List (DataW H)) (ps : List MemPlace), (ts.all fun t => P.readableRec t && decide (t < P.types.size)) = true →
    DataW.TrodAll enc P W 0 (fun _ => true) true ts vs ds ps → (∀ x ∈ ps, x.block < W.heap.size) → ∀ sp : Nat → Bool, (∀ x ∈ ps, sp x.block = true) → DataW.TrodAll enc P W' 0 sp true ts vs ds ps
  | [], vs, ds, ps, _, h, _, sp, _ => by
    obtain ⟨rfl, rfl, rfl⟩ := trodAll_nil h
    exact h
  | t :: ts, vs, ds, ps, ht, h, hlt, sp, hsp => by
    obtain ⟨v, vs', d, ds', p, q, rfl, rfl, rfl, h1, h2⟩ := trodAll_cons h
    simp only [List.all_cons, Bool.and_eq_true, decide_eq_true_eq] at ht
    exact ⟨p, q, WideElems.Trod_stays hl ht.1.1 ht.1.2 h1 (fun x hx => hb.same (hlt x (by simp [hx]))) (fun x hx => hsp x (by simp [hx])),
      args_stay hl hb ts vs' ds' q ht.2 h2 (fun x hx => hlt x (by simp [hx])) sp (fun x hx => hsp x (by simp [hx])), rfl⟩

theorem trodAll_len {W : World} {sp : Nat → Bool} : ∀ (ts : List TypeId) (vs : List Value) (ds : List (DataW H)) (ps : List MemPlace), DataW.TrodAll enc P W 0 sp true ts vs ds ps → ds.length = ts.length
  | [], vs, ds, ps, h => by obtain ⟨_, rfl, _⟩ := trodAll_nil h; rfl
  | t :: ts, vs, ds, ps, h => by
    obtain ⟨v, vs', d, ds', p, q, rfl, rfl, rfl, h1, h2⟩ := trodAll_cons h
    simp [trodAll_len ts vs' ds' q h2]

/-- What a statement without a record says of the call, out of what 'Below' says. -/
theorem post_below {f : Func} {s : ChangeSpec} {apart : Bool} {W W' : World} {args : Array Value} {v : Value} {ds gs : List (DataW H)} {before pa pv : List MemPlace}
    (hW : DataW.Whole enc P f.params.toList s.vars apart W args.toList ds gs before)
    (hres : DataW.TrodAll enc P W' W.heap.size (fun _ => false) false f.resultTypes.toList (v.resultList f.resultTypes.size) (s.fn H (ds ++ gs)).results [])
    (hargs : DataW.TrodAll enc P W' 0 (fun b => decide (b < W.heap.size)) true f.params.toList args.toList (s.fn H (ds ++ gs)).args pa)
    (hvars : DataW.TrodVars enc P W' (fun b => decide (b < W.heap.size)) s.vars (s.fn H (ds ++ gs)).vars pv) (hb : Below W.heap.size W W') : s.post enc P f apart true false false W args v W' :=
  ⟨ds, gs, before, [], pa, pv, hW, hres, hargs, hvars, hb.frame _, fun h => by cases h⟩

theorem len_eq1 {α : Type} {l : List α} (h : l.length = 1) : ∃ a, l = [a] := by
  match l, h with
  | [a], _ => exact ⟨a, rfl⟩
theorem len_eq2 {α : Type} {l : List α} (h : l.length = 2) : ∃ a b, l = [a, b] := by
  match l, h with
  | [a, b], _ => exact ⟨a, b, rfl⟩
theorem len_eq3 {α : Type} {l : List α} (h : l.length = 3) : ∃ a b c, l = [a, b, c] := by
  match l, h with
  | [a, b, c], _ => exact ⟨a, b, c, rfl⟩
theorem len_eq4 {α : Type} {l : List α} (h : l.length = 4) : ∃ a b c d, l = [a, b, c, d] := by
  match l, h with
  | [a, b, c, d], _ => exact ⟨a, b, c, d, rfl⟩
theorem len_eq5 {α : Type} {l : List α} (h : l.length = 5) : ∃ a b c d e, l = [a, b, c, d, e] := by
  match l, h with
  | [a, b, c, d, e], _ => exact ⟨a, b, c, d, e, rfl⟩

/-! ### Data of a type, opened -/

theorem conf_int' {t : TypeId} {te : TE} {k : IntKind} {x : DV} (ht : tget T t = some te) (hd : te.d = .int k) (h : Conf T x t) : ∃ n, x = .v (.int k n) ∧ k.min ≤ n ∧ n ≤ k.max := by
  cases x with
  | v y =>
    simp only [Conf] at h
    obtain ⟨te', h1, h2⟩ := h
    rw [ht] at h1; cases h1
    rw [hd] at h2
    cases y <;> simp only [] at h2
    obtain ⟨rfl, h3⟩ := h2
    exact ⟨_, rfl, h3⟩
  | st ns xs => simp only [Conf] at h; obtain ⟨te', fs, h1, h2, _⟩ := h; rw [ht] at h1; cases h1; rw [hd] at h2; cases h2
  | ar sz xs => simp only [Conf] at h; obtain ⟨te', n, e, ee, h1, h2, _⟩ := h; rw [ht] at h1; cases h1; rw [hd] at h2; cases h2
  | sl E sz xs => simp only [Conf] at h; obtain ⟨te', ee, h1, h2, _⟩ := h; rw [ht] at h1; cases h1; rw [hd] at h2; cases h2
  | tup xs => simp [Conf] at h
  | pd x => simp [Conf] at h
  | fn f xs => simp [Conf] at h

theorem conf_bool' {t : TypeId} {te : TE} {x : DV} (ht : tget T t = some te) (hd : te.d = .bool) (h : Conf T x t) : ∃ b, x = .v (.bool b) := by
  cases x with
  | v y =>
    simp only [Conf] at h
    obtain ⟨te', h1, h2⟩ := h
    rw [ht] at h1; cases h1
    rw [hd] at h2
    cases y <;> simp only [] at h2
    exact ⟨_, rfl⟩
  | st ns xs => simp only [Conf] at h; obtain ⟨te', fs, h1, h2, _⟩ := h; rw [ht] at h1; cases h1; rw [hd] at h2; cases h2
  | ar sz xs => simp only [Conf] at h; obtain ⟨te', n, e, ee, h1, h2, _⟩ := h; rw [ht] at h1; cases h1; rw [hd] at h2; cases h2
  | sl E sz xs => simp only [Conf] at h; obtain ⟨te', ee, h1, h2, _⟩ := h; rw [ht] at h1; cases h1; rw [hd] at h2; cases h2
  | tup xs => simp [Conf] at h
  | pd x => simp [Conf] at h
  | fn f xs => simp [Conf] at h

theorem conf_str' {t : TypeId} {te : TE} {x : DV} (ht : tget T t = some te) (hd : te.d = .str) (h : Conf T x t) : ∃ s, x = .v (.string s) ∧ s.size ≤ maxLen := by
  cases x with
  | v y =>
    simp only [Conf] at h
    obtain ⟨te', h1, h2⟩ := h
    rw [ht] at h1; cases h1
    rw [hd] at h2
    cases y <;> simp only [] at h2
    exact ⟨_, rfl, h2⟩
  | st ns xs => simp only [Conf] at h; obtain ⟨te', fs, h1, h2, _⟩ := h; rw [ht] at h1; cases h1; rw [hd] at h2; cases h2
  | ar sz xs => simp only [Conf] at h; obtain ⟨te', n, e, ee, h1, h2, _⟩ := h; rw [ht] at h1; cases h1; rw [hd] at h2; cases h2
  | sl E sz xs => simp only [Conf] at h; obtain ⟨te', ee, h1, h2, _⟩ := h; rw [ht] at h1; cases h1; rw [hd] at h2; cases h2
  | tup xs => simp [Conf] at h
  | pd x => simp [Conf] at h
  | fn f xs => simp [Conf] at h

theorem conf_st' {t : TypeId} {te : TE} {fs : List (Nat × TypeId)} {x : DV} (ht : tget T t = some te) (hd : te.d = .struct fs) (h : Conf T x t) : ∃ ns xs, x = .st ns xs ∧ ConfF T xs ns fs := by
  cases x with
  | v y =>
    simp only [Conf] at h
    obtain ⟨te', h1, h2⟩ := h
    rw [ht] at h1; cases h1
    rw [hd] at h2
    cases y <;> simp only [] at h2
  | st ns xs => simp only [Conf] at h; obtain ⟨te', fs', h1, h2, h3⟩ := h; rw [ht] at h1; cases h1; rw [hd] at h2; cases h2; exact ⟨ns, xs, rfl, h3⟩
  | ar sz xs => simp only [Conf] at h; obtain ⟨te', n, e, ee, h1, h2, _⟩ := h; rw [ht] at h1; cases h1; rw [hd] at h2; cases h2
  | sl E sz xs => simp only [Conf] at h; obtain ⟨te', ee, h1, h2, _⟩ := h; rw [ht] at h1; cases h1; rw [hd] at h2; cases h2
  | tup xs => simp [Conf] at h
  | pd x => simp [Conf] at h
  | fn f xs => simp [Conf] at h

theorem conf_ar' {t e : TypeId} {te ee : TE} {n : Nat} {x : DV} (ht : tget T t = some te) (hd : te.d = .arr n e) (he : tget T e = some ee) (h : Conf T x t) : ∃ xs, x = .ar ee.size xs ∧ xs.length = n ∧ ConfL T xs e := by
  cases x with
  | v y =>
    simp only [Conf] at h
    obtain ⟨te', h1, h2⟩ := h
    rw [ht] at h1; cases h1
    rw [hd] at h2
    cases y <;> simp only [] at h2
  | st ns xs => simp only [Conf] at h; obtain ⟨te', fs', h1, h2, h3⟩ := h; rw [ht] at h1; cases h1; rw [hd] at h2; cases h2
  | ar sz xs =>
    simp only [Conf] at h
    obtain ⟨te', n', e', ee', h1, h2, h3, h4, h5, h6⟩ := h
    rw [ht] at h1; cases h1; rw [hd] at h2; cases h2; rw [he] at h3; cases h3; subst h4; exact ⟨xs, rfl, h5, h6⟩
  | sl E sz xs => simp only [Conf] at h; obtain ⟨te', ee, h1, h2, _⟩ := h; rw [ht] at h1; cases h1; rw [hd] at h2; cases h2
  | tup xs => simp [Conf] at h
  | pd x => simp [Conf] at h
  | fn f xs => simp [Conf] at h

theorem conf_sl' {t e : TypeId} {te ee : TE} {x : DV} (ht : tget T t = some te) (hd : te.d = .slice e) (he : tget T e = some ee) (h : Conf T x t) : ∃ xs, x = .sl e ee.size xs ∧ xs.length ≤ maxLen ∧ ConfL T xs e := by
  cases x with
  | v y =>
    simp only [Conf] at h
    obtain ⟨te', h1, h2⟩ := h
    rw [ht] at h1; cases h1
    rw [hd] at h2
    cases y <;> simp only [] at h2
  | st ns xs => simp only [Conf] at h; obtain ⟨te', fs', h1, h2, h3⟩ := h; rw [ht] at h1; cases h1; rw [hd] at h2; cases h2
  | ar sz xs => simp only [Conf] at h; obtain ⟨te', n, e, ee, h1, h2, _⟩ := h; rw [ht] at h1; cases h1; rw [hd] at h2; cases h2
  | sl E sz xs =>
    simp only [Conf] at h
    obtain ⟨te', ee', h1, h2, h3, h4, h5, h6⟩ := h
    rw [ht] at h1; cases h1; rw [hd] at h2; cases h2; rw [he] at h3; cases h3; subst h4; exact ⟨xs, rfl, h5, h6⟩
  | tup xs => simp [Conf] at h
  | pd x => simp [Conf] at h
  | fn f xs => simp [Conf] at h

theorem inI_of {n : Int} (h : IntKind.i64.min ≤ n ∧ n ≤ IntKind.i64.max) : inI n := by
  have e1 : IntKind.i64.min = -9223372036854775808 := rfl
  have e2 : IntKind.i64.max = 9223372036854775807 := rfl
  unfold inI; omega

theorem confF_cons {xs : List DV} {ns : List Nat} {f : Nat × TypeId} {fs : List (Nat × TypeId)} {te : TE} (hte : tget T f.2 = some te) (h : ConfF T xs ns (f :: fs)) : ∃ x xs' ns', xs = x :: xs' ∧ ns = te.size :: ns' ∧ Conf T x f.2 ∧ ConfF T xs' ns' fs := by
  match xs, ns, h with
  | x :: xs', n :: ns', h =>
    simp only [ConfF] at h
    obtain ⟨⟨te', h1, h2⟩, h3, h4⟩ := h
    rw [hte] at h1
    cases h1
    subst h2
    exact ⟨x, xs', ns', rfl, rfl, h3, h4⟩
  | [], _, h => simp [ConfF] at h
  | _ :: _, [], h => simp [ConfF] at h

theorem confF_nil {xs : List DV} {ns : List Nat} (h : ConfF T xs ns []) : xs = [] ∧ ns = [] := by
  match xs, ns, h with
  | [], [], _ => exact ⟨rfl, rfl⟩
  | [], _ :: _, h => simp [ConfF] at h
  | _ :: _, [], h => simp [ConfF] at h
  | _ :: _, _ :: _, h => simp [ConfF] at h

theorem conf_flt' {t : TypeId} {te : TE} {x : DV} (ht : tget T t = some te) (hd : te.d = .flt .f64) (h : Conf T x t) : ∃ n, x = .v (.float .f64 n) ∧ okFlt n := by
  cases x with
  | v y =>
    simp only [Conf] at h
    obtain ⟨te', h1, h2⟩ := h
    rw [ht] at h1; cases h1
    rw [hd] at h2
    cases y <;> simp only [] at h2
    obtain ⟨rfl, h3⟩ := h2
    exact ⟨_, rfl, h3⟩
  | st ns xs => simp only [Conf] at h; obtain ⟨te', fs, h1, h2, _⟩ := h; rw [ht] at h1; cases h1; rw [hd] at h2; cases h2
  | ar sz xs => simp only [Conf] at h; obtain ⟨te', n, e, ee, h1, h2, _⟩ := h; rw [ht] at h1; cases h1; rw [hd] at h2; cases h2
  | sl E sz xs => simp only [Conf] at h; obtain ⟨te', ee, h1, h2, _⟩ := h; rw [ht] at h1; cases h1; rw [hd] at h2; cases h2
  | tup xs => simp [Conf] at h
  | pd x => simp [Conf] at h
  | fn f xs => simp [Conf] at h

theorem conf_list {α : Type} {enc : α → DV} {ok : α → Prop} {t : TypeId} (hc : ∀ x, Conf T x t → ∃ a, x = enc a ∧ ok a) : ∀ {xs : List DV}, ConfL T xs t → ∃ as : List α, xs = as.map enc ∧ ∀ a ∈ as, ok a
  | [], _ => ⟨[], rfl, by simp⟩
  | x :: xs, h => by
    simp only [ConfL] at h
    obtain ⟨a, rfl, ka⟩ := hc x h.1
    obtain ⟨as, rfl, kas⟩ := conf_list hc h.2
    exact ⟨a :: as, rfl, by simpa using ⟨ka, kas⟩⟩

end
end Go.Sim
