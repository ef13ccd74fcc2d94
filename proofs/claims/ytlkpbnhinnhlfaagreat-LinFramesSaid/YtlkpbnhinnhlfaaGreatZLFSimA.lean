/- What is proved: laws of a heap-free reading of the model's memory: when a value of the program's memory holds an abstract datum, and what leaves that so. -/
import Derived.Test.YtlkpbnhinnhlfaaGreatZLFGlob
import Derived.Orders
import Derived.Below
import Derived.Laws.AppendOwn
import Derived.Laws.MakeOwn
import Derived.Laws.Entries
import Derived.Laws.Slices

namespace Go.Sim
open Go.RowKit
inductive All2 {α β : Type} (R : α → β → Prop) : List α → List β → Prop
  | nil : All2 R [] []
  | cons {x : α} {y : β} {xs : List α} {ys : List β} : R x y → All2 R xs ys → All2 R (x :: xs) (y :: ys)
theorem All2.imp {α β : Type} {R R' : α → β → Prop} (h : ∀ x y, R x y → R' x y) : ∀ {xs : List α} {ys : List β}, All2 R xs ys → All2 R' xs ys
  | _, _, .nil => .nil
  | _, _, .cons a b => .cons (h _ _ a) (All2.imp h b)
/-- Closed data: no address of the reader's own. -/
inductive DV where
  | v (x : Value)
  | st (ns : List Nat) (xs : List DV)
  | ar (sz : Nat) (xs : List DV)
  | sl (E : TypeId) (sz : Nat) (xs : List DV)
  | tup (xs : List DV)
  | pd (x : DV)
  | fn (f : FuncId) (cs : List DV)
  | mp (ks : List Value) (xs : List DV)
  | any (p : Value → Prop)
def DV.agg : DV → Bool
  | .st .. | .ar .. => true
  | _ => false
mutual
def RepD (w : World) (S : Nat → Prop) : DV → List Value → Prop
  | .v x, cs => cs = [x] ∧ x.oneCell' = true
  | .st ns xs, cs => RepF w S xs ns cs
  | .ar sz xs, cs => RepF w S xs (List.replicate xs.length sz) cs
  | .sl _ sz xs, cs => ∃ a c row, cs = [.slice a xs.length c] ∧ xs.length ≤ c ∧ RepF w S xs (List.replicate xs.length sz) row ∧
      (row = [] ∨ ∃ b o, a = some ⟨b, o, none⟩ ∧ S b ∧ ∀ j u, row[j]? = some u → w.cell? ⟨b, o + j, none⟩ = some u)
  | .tup _, _ => False
  | .pd x, cs => ∃ b o ds, cs = [.pointer (some ⟨b, o, none⟩)] ∧ RepD w S x ds ∧ (ds = [] ∨ S b ∧ ∀ j u, ds[j]? = some u → w.cell? ⟨b, o + j, none⟩ = some u)
  | .fn f xs, cs => ∃ vs : List Value, cs = [.func (.func f) #[] vs.toArray] ∧ RepF w S xs (List.replicate xs.length 1) vs
  | .mp ks xs, cs => ∃ (r : Nat) (es : Array MapEntry) (clock : Nat), cs = [.map (some r)] ∧ S r ∧ w.heap[r]? = some (.map es clock) ∧ es.toList.map (·.key) = ks ∧ RepE w S xs (es.toList.map (·.val))
  | .any p, cs => ∃ u : Value, cs = [u] ∧ u.oneCell' = true ∧ p u
def RepF (w : World) (S : Nat → Prop) : List DV → List Nat → List Value → Prop
  | [], ns, cs => ns = [] ∧ cs = []
  | x :: xs, ns, cs => ∃ n ns' c1 c2, ns = n :: ns' ∧ cs = c1 ++ c2 ∧ c1.length = n ∧ RepD w S x c1 ∧ RepF w S xs ns' c2
/-- Values that hold data. -/
def RepE (w : World) (S : Nat → Prop) : List DV → List Value → Prop
  | [], vs => vs = []
  | x :: xs, vs => ∃ v vs', vs = v :: vs' ∧ ((x.agg = true ∧ ∃ cs : List Value, v = .agg cs.toArray ∧ RepD w S x cs) ∨ (x.agg = false ∧ RepD w S x [v])) ∧ RepE w S xs vs'
end
theorem cell?_heap {w w' : World} {S : Nat → Prop} (h : ∀ k, S k → k < w.heap.size → w'.heap[k]? = w.heap[k]?) {b o : Nat} {u : Value} (hb : S b)
    (hc : w.cell? ⟨b, o, none⟩ = some u) : w'.cell? ⟨b, o, none⟩ = some u := by
  have hlt := World.block_lt_of_cell? w _ hc
  rw [World.cell?_of_block (w := w) (h b hb hlt)]; exact hc
mutual
theorem RepD.frame {w w' : World} {S S' : Nat → Prop} (hS : ∀ k, S k → S' k) (h : ∀ k, S k → k < w.heap.size → w'.heap[k]? = w.heap[k]?) :
    ∀ (x : DV) (cs : List Value), RepD w S x cs → RepD w' S' x cs
  | .v _, _, hr => hr
  | .st ns xs, cs, hr => RepF.frame hS h xs ns cs hr
  | .ar _ xs, cs, hr => RepF.frame hS h xs _ cs hr
  | .sl _ sz xs, cs, hr => by
    simp only [RepD] at hr ⊢
    obtain ⟨a, c, row, h1, h2, h3, h4⟩ := hr
    refine ⟨a, c, row, h1, h2, RepF.frame hS h xs _ row h3, ?_⟩
    rcases h4 with h4 | ⟨b, o, e, hb, hc⟩
    · exact .inl h4
    · exact .inr ⟨b, o, e, hS b hb, fun j u hj => cell?_heap h hb (hc j u hj)⟩
  | .tup _, _, hr => by simp only [RepD] at hr
  | .pd x, cs, hr => by
    simp only [RepD] at hr ⊢
    obtain ⟨b, o, ds, h1, h2, h3⟩ := hr
    exact ⟨b, o, ds, h1, RepD.frame hS h x ds h2, h3.imp id fun ⟨k1, k2⟩ => ⟨hS b k1, fun j u hj => cell?_heap h k1 (k2 j u hj)⟩⟩
  | .fn f xs, cs, hr => by
    simp only [RepD] at hr ⊢
    obtain ⟨vs, h1, h2⟩ := hr
    exact ⟨vs, h1, RepF.frame hS h xs _ vs h2⟩
  | .any _, _, hr => hr
  | .mp ks xs, cs, hr => by
    simp only [RepD] at hr ⊢
    obtain ⟨r, es, clock, h1, h2, h3, h4, h5⟩ := hr
    have hlt : r < w.heap.size := (Array.getElem?_eq_some_iff.1 h3).1
    exact ⟨r, es, clock, h1, hS r h2, by rw [h r h2 hlt]; exact h3, h4, RepE.frame hS h xs _ h5⟩
theorem RepF.frame {w w' : World} {S S' : Nat → Prop} (hS : ∀ k, S k → S' k) (h : ∀ k, S k → k < w.heap.size → w'.heap[k]? = w.heap[k]?) :
    ∀ (xs : List DV) (ns : List Nat) (cs : List Value), RepF w S xs ns cs → RepF w' S' xs ns cs
  | [], _, _, hr => by simpa only [RepF] using hr
  | x :: xs, ns, cs, hr => by
    simp only [RepF] at hr ⊢
    obtain ⟨n, ns', c1, c2, e1, e2, e3, h1, h2⟩ := hr
    exact ⟨n, ns', c1, c2, e1, e2, e3, RepD.frame hS h x c1 h1, RepF.frame hS h xs ns' c2 h2⟩
theorem RepE.frame {w w' : World} {S S' : Nat → Prop} (hS : ∀ k, S k → S' k) (h : ∀ k, S k → k < w.heap.size → w'.heap[k]? = w.heap[k]?) :
    ∀ (xs : List DV) (vs : List Value), RepE w S xs vs → RepE w' S' xs vs
  | [], _, hr => by simpa only [RepE] using hr
  | x :: xs, vs, hr => by
    simp only [RepE] at hr ⊢
    obtain ⟨v, vs', e, h1, h2⟩ := hr
    refine ⟨v, vs', e, ?_, RepE.frame hS h xs vs' h2⟩
    rcases h1 with ⟨a1, cs, e1, a2⟩ | ⟨a1, a2⟩
    · exact .inl ⟨a1, cs, e1, RepD.frame hS h x cs a2⟩
    · exact .inr ⟨a1, RepD.frame hS h x [v] a2⟩
end
theorem RepF.length {w : World} {S : Nat → Prop} : ∀ {xs : List DV} {ns : List Nat} {cs : List Value}, RepF w S xs ns cs → cs.length = ns.sum ∧ xs.length = ns.length
  | [], _, _, h => by simp only [RepF] at h; obtain ⟨rfl, rfl⟩ := h; simp
  | x :: xs, ns, cs, h => by
    simp only [RepF] at h
    obtain ⟨n, ns', c1, c2, rfl, rfl, rfl, _, h2⟩ := h
    have := RepF.length h2
    simp [this.1, this.2]
/-- One datum out of a row, and another one in its place. -/
theorem RepF.at {w : World} {S : Nat → Prop} : ∀ {xs : List DV} {ns : List Nat} {cs : List Value} {i : Nat} {x : DV}, RepF w S xs ns cs → xs[i]? = some x →
    ∃ c1 c2 c3 n, ns[i]? = some n ∧ cs = c1 ++ c2 ++ c3 ∧ c1.length = (ns.take i).sum ∧ c2.length = n ∧ RepD w S x c2 ∧
      ∀ w' S' y c2', (∀ z c, RepD w S z c → RepD w' S' z c) → c2'.length = n → RepD w' S' y c2' → RepF w' S' (xs.set i y) ns (c1 ++ c2' ++ c3)
  | [], _, _, _, _, _, hx => by simp at hx
  | x0 :: xs, ns, cs, 0, x, h, hx => by
    simp only [RepF] at h
    obtain ⟨n, ns', c1, c2, rfl, rfl, e3, h1, h2⟩ := h
    simp at hx; subst hx
    refine ⟨[], c1, c2, n, by simp, by simp, by simp, e3, h1, ?_⟩
    intro w' S' y c2' hfr hl hy
    simp only [List.set_cons_zero, RepF, List.nil_append]
    refine ⟨n, ns', c2', c2, rfl, rfl, hl, hy, ?_⟩
    clear h1 hy hl e3 c1
    induction xs generalizing ns' c2 with
    | nil => simpa only [RepF] using h2
    | cons z zs ih =>
      simp only [RepF] at h2 ⊢
      obtain ⟨n', ns'', d1, d2, e1, e2, e4, k1, k2⟩ := h2
      exact ⟨n', ns'', d1, d2, e1, e2, e4, hfr _ _ k1, ih _ _ k2⟩
  | x0 :: xs, ns, cs, i + 1, x, h, hx => by
    simp only [RepF] at h
    obtain ⟨n, ns', c1, c2, rfl, rfl, e3, h1, h2⟩ := h
    simp at hx
    obtain ⟨d1, d2, d3, m, hm, e, hl1, hl2, hd, hput⟩ := RepF.at h2 hx
    refine ⟨c1 ++ d1, d2, d3, m, by simpa using hm, by simp [e], by simp [hl1, e3], hl2, hd, ?_⟩
    intro w' S' y c2' hfr hl hy
    simp only [List.set_cons_succ, RepF]
    exact ⟨n, ns', c1, d1 ++ c2' ++ d3, rfl, by simp, e3, hfr _ _ h1, hput w' S' y c2' hfr hl hy⟩
theorem RepF.append {w : World} {S : Nat → Prop} : ∀ {xs ys : List DV} {ns ms : List Nat} {cs ds : List Value}, RepF w S xs ns cs → RepF w S ys ms ds → RepF w S (xs ++ ys) (ns ++ ms) (cs ++ ds)
  | [], ys, ns, ms, cs, ds, h, k => by simp only [RepF] at h; obtain ⟨rfl, rfl⟩ := h; simpa using k
  | x :: xs, ys, ns, ms, cs, ds, h, k => by
    simp only [RepF, List.cons_append] at h ⊢
    obtain ⟨n, ns', c1, c2, rfl, rfl, e3, h1, h2⟩ := h
    exact ⟨n, ns' ++ ms, c1, c2 ++ ds, rfl, by simp, e3, h1, RepF.append h2 k⟩
theorem RepF.split {w : World} {S : Nat → Prop} : ∀ {xs ys : List DV} {ns : List Nat} {cs : List Value}, RepF w S (xs ++ ys) ns cs →
    ∃ n1 n2 c1 c2, ns = n1 ++ n2 ∧ cs = c1 ++ c2 ∧ n1.length = xs.length ∧ RepF w S xs n1 c1 ∧ RepF w S ys n2 c2
  | [], ys, ns, cs, h => ⟨[], ns, [], cs, rfl, rfl, rfl, by simp [RepF], h⟩
  | x :: xs, ys, ns, cs, h => by
    simp only [RepF, List.cons_append] at h
    obtain ⟨n, ns', c1, c2, rfl, rfl, e3, h1, h2⟩ := h
    obtain ⟨n1, n2, d1, d2, rfl, rfl, hl, k1, k2⟩ := RepF.split h2
    refine ⟨n :: n1, n2, c1 ++ d1, d2, rfl, by simp, by simp [hl], ?_, k2⟩
    simp only [RepF]
    exact ⟨n, n1, c1, d1, rfl, rfl, e3, h1, k1⟩
end Go.Sim
/- What is proved: what it means that a frame and a memory hold an abstract state, and that this lasts while other memory is written. -/
namespace Go.Sim
open Go.RowKit
/-- A value that holds a datum. -/
def RepV (w : World) (S : Nat → Prop) : DV → Value → Prop
  | .tup xs, u => ∃ us : List Value, u = .tuple us.toArray ∧ All2 (fun x u => x.agg = true ∧ (∃ cs : List Value, u = .agg cs.toArray ∧ RepD w S x cs) ∨ x.agg = false ∧ RepD w S x [u]) xs us
  | .st ns xs, u => ∃ cs : List Value, u = .agg cs.toArray ∧ RepD w S (.st ns xs) cs
  | .ar sz xs, u => ∃ cs : List Value, u = .agg cs.toArray ∧ RepD w S (.ar sz xs) cs
  | .v x, u => RepD w S (.v x) [u]
  | .sl E sz xs, u => RepD w S (.sl E sz xs) [u]
  | .pd x, u => RepD w S (.pd x) [u]
  | .fn f xs, u => RepD w S (.fn f xs) [u]
  | .mp ks xs, u => RepD w S (.mp ks xs) [u]
  | .any p, u => RepD w S (.any p) [u]
/-- As `RepV`, for what is no tuple. -/
def RepU (w : World) (S : Nat → Prop) (x : DV) (u : Value) : Prop :=
  x.agg = true ∧ (∃ cs : List Value, u = .agg cs.toArray ∧ RepD w S x cs) ∨ x.agg = false ∧ RepD w S x [u]
theorem RepU.v {w : World} {S : Nat → Prop} {x : DV} {u : Value} (h : RepU w S x u) : RepV w S x u := by
  cases x <;> simp_all [RepU, RepV, DV.agg, RepD]
theorem RepV.u {w : World} {S : Nat → Prop} {x : DV} {u : Value} (h : RepV w S x u) (ht : ∀ xs, x ≠ .tup xs) : RepU w S x u := by
  cases x <;> simp_all [RepU, RepV, DV.agg]
theorem RepV.frame {w w' : World} {S S' : Nat → Prop} (hS : ∀ k, S k → S' k) (h : ∀ k, S k → k < w.heap.size → w'.heap[k]? = w.heap[k]?)
    {x : DV} {u : Value} (hr : RepV w S x u) : RepV w' S' x u := by
  cases x with
  | tup xs =>
    obtain ⟨us, e, hf⟩ := hr
    refine ⟨us, e, ?_⟩
    clear e
    induction hf with
    | nil => exact .nil
    | cons a _ ih =>
      refine .cons ?_ ih
      rcases a with ⟨a1, cs, e, a2⟩ | ⟨a1, a2⟩
      · exact .inl ⟨a1, cs, e, RepD.frame hS h _ _ a2⟩
      · exact .inr ⟨a1, RepD.frame hS h _ _ a2⟩
  | st ns xs => obtain ⟨cs, e, hd⟩ := hr; exact ⟨cs, e, RepD.frame hS h _ _ hd⟩
  | ar ns xs => obtain ⟨cs, e, hd⟩ := hr; exact ⟨cs, e, RepD.frame hS h _ _ hd⟩
  | v x => exact RepD.frame hS h _ _ hr
  | sl E sz xs => exact RepD.frame hS h _ _ hr
  | pd x => exact RepD.frame hS h _ _ hr
  | fn f xs => exact RepD.frame hS h _ _ hr
  | any p => exact RepD.frame hS h _ _ hr
  | mp ks xs => exact RepD.frame hS h _ _ hr
/-- The cells of a value that holds a datum. -/
theorem RepU.cells {w : World} {S : Nat → Prop} {x : DV} {u : Value} (h : RepU w S x u) : RepD w S x u.cells.toList := by
  rcases h with ⟨_, cs, rfl, hd⟩ | ⟨hx, hd⟩
  · simpa [Value.cells] using hd
  · cases x with
    | v y => simp only [RepD, List.cons.injEq, and_true] at hd; obtain ⟨rfl, h1⟩ := hd; cases u <;> simp_all [Value.oneCell', Value.cells, RepD]
    | sl E sz xs => have hd' := hd; simp only [RepD] at hd; obtain ⟨a, c, row, e, _⟩ := hd; simp at e; subst e; simpa [Value.cells] using hd'
    | tup xs => simp [RepD] at hd
    | pd x => have hd' := hd; simp only [RepD] at hd; obtain ⟨b, o, ds, e, _⟩ := hd; simp at e; subst e; simpa [Value.cells] using hd'
    | fn f xs => have hd' := hd; simp only [RepD] at hd; obtain ⟨vs, e, _⟩ := hd; simp at e; subst e; simpa [Value.cells] using hd'
    | any p => have hd' := hd; simp only [RepD] at hd; obtain ⟨v, e, h1, h2⟩ := hd; simp at e; subst e; have : u.cells = #[u] := by cases u <;> simp_all [Value.oneCell', Value.cells]
               rw [this]; exact hd'
    | mp ks xs => have hd' := hd; simp only [RepD] at hd; obtain ⟨r, es, clock, e, _⟩ := hd; simp at e; subst e; simpa [Value.cells] using hd'
    | st => simp [DV.agg] at hx
    | ar => simp [DV.agg] at hx
mutual
/-- Every cell of a datum is the value of one cell. -/
theorem RepD.one {w : World} {S : Nat → Prop} : ∀ (x : DV) (cs : List Value), RepD w S x cs → ∀ u ∈ cs, u.oneCell' = true
  | .v _, _, h => by simp only [RepD] at h; obtain ⟨rfl, h⟩ := h; simpa using h
  | .st ns xs, cs, h => RepF.one xs ns cs h
  | .ar _ xs, cs, h => RepF.one xs _ cs h
  | .sl _ _ _, _, h => by simp only [RepD] at h; obtain ⟨a, c, row, rfl, _⟩ := h; simp [Value.oneCell']
  | .tup _, _, h => by simp only [RepD] at h
  | .pd _, _, h => by simp only [RepD] at h; obtain ⟨b, o, ds, rfl, _⟩ := h; simp [Value.oneCell']
  | .fn _ _, _, h => by simp only [RepD] at h; obtain ⟨vs, rfl, _⟩ := h; simp [Value.oneCell']
  | .any _, _, h => by simp only [RepD] at h; obtain ⟨v, rfl, h1, _⟩ := h; simpa using h1
  | .mp _ _, _, h => by simp only [RepD] at h; obtain ⟨r, es, clock, rfl, _⟩ := h; simp [Value.oneCell']
theorem RepF.one {w : World} {S : Nat → Prop} : ∀ (xs : List DV) (ns : List Nat) (cs : List Value), RepF w S xs ns cs → ∀ u ∈ cs, u.oneCell' = true
  | [], _, _, h => by simp only [RepF] at h; obtain ⟨_, rfl⟩ := h; simp
  | x :: xs, ns, cs, h => by
    simp only [RepF] at h
    obtain ⟨n, ns', c1, c2, rfl, rfl, e3, h1, h2⟩ := h
    intro u hu
    rcases List.mem_append.1 hu with hu | hu
    · exact RepD.one x c1 h1 u hu
    · exact RepF.one xs ns' c2 h2 u hu
end
/-! ### Abstract values of a function's own -/
inductive Pa where
  | fld (i : Nat)
  | idx (i : Nat)
inductive AV where
  | dat (x : DV)
  | st (ns : List Nat) (xs : List AV)
  | oref (id : Nat)
  | pt (id : Nat) (p : List Pa) (off : Nat)
  | sp (x : DV)
  | fb (f : FuncId) (fs cs : List Nat)
  | vw (id l h sz : Nat)
  | dead
inductive Obj where
  | box (T : TypeId) (sz : Nat) (x : AV)
  | row (E : TypeId) (sz : Nat) (xs : List DV)
  | mp (ks : List Value) (xs : List DV)
  | rr (T E : TypeId) (sz : Nat) (xss : List (List DV)) (hs : List (Nat × Nat))
  | gone
structure St where
  slot : Nat → AV
  obj : Nat → Option Obj
structure Gh where
  S : Nat → Prop
  blk : Nat → Nat
  hdr : Nat → Value
  has : Nat → Prop
  sub : Nat → Nat → Nat → Prop
/-- A function's value that holds pointers to objects. -/
def fbV (g : Gh) (f : FuncId) (fs cs : List Nat) : Value := .func (.func f) (fs.map fun i => Value.pointer (some ⟨g.blk i, 0, none⟩)).toArray (cs.map fun i => Value.pointer (some ⟨g.blk i, 0, none⟩)).toArray
/-- A part of an own slice. -/
def vwV : Value → Nat → Nat → Nat → Value
  | .slice ad _ c, l, h, sz => sliced ad l h c sz
  | v, _, _, _ => v
mutual
def RepA (w : World) (g : Gh) : AV → List Value → Prop
  | .dat x, cs => RepD w g.S x cs
  | .st ns xs, cs => RepAF w g xs ns cs
  | .oref id, cs => cs = [g.hdr id]
  | .pt id _ off, cs => cs = [.pointer (some ⟨g.blk id, off, none⟩)]
  | .fb f fs ks, cs => cs = [fbV g f fs ks]
  | .vw id l h sz, cs => cs = [vwV (g.hdr id) l h sz]
  | .sp x, cs => ∃ b o ds, cs = [.pointer (some ⟨b, o, none⟩)] ∧ RepD w g.S x ds ∧ (ds = [] ∨ g.S b ∧ ∀ j u, ds[j]? = some u → w.cell? ⟨b, o + j, none⟩ = some u)
  | .dead, cs => ∃ u : Value, cs = [u] ∧ u.oneCell' = true
def RepAF (w : World) (g : Gh) : List AV → List Nat → List Value → Prop
  | [], ns, cs => ns = [] ∧ cs = []
  | x :: xs, ns, cs => ∃ n ns' c1 c2, ns = n :: ns' ∧ cs = c1 ++ c2 ∧ c1.length = n ∧ RepA w g x c1 ∧ RepAF w g xs ns' c2
end
/-- What a slot's value is. -/
def RepS (w : World) (g : Gh) : AV → Value → Prop
  | .dat x, u => RepV w g.S x u
  | .st ns xs, u => ∃ cs : List Value, u = .agg cs.toArray ∧ RepA w g (.st ns xs) cs
  | .oref id, u => u = g.hdr id
  | .pt id _ off, u => u = .pointer (some ⟨g.blk id, off, none⟩)
  | .fb f fs ks, u => u = fbV g f fs ks
  | .vw id l h sz, u => u = vwV (g.hdr id) l h sz
  | .sp x, u => RepA w g (.sp x) [u]
  | .dead, _ => True
/-- An own slice inside an own one. -/
def RepIn (w : World) (S : Nat → Prop) (b : Nat → Prop) (E : TypeId) (sz : Nat) (xs : List DV) (u : Value) : Prop :=
  (xs = [] ∧ u = .slice none 0 0) ∨
    ∃ b0 c cur, b b0 ∧ u = .slice (some ⟨b0, 0, none⟩) xs.length c ∧ w.heap[b0]? = some (.cells cur E (0, 0)) ∧ cur.size = c * sz ∧
      xs.length ≤ c ∧ c ≤ maxLen ∧ RepF w S xs (List.replicate xs.length sz) (cur.toList.take (xs.length * sz))
/-- The object that stands for an own slice's place. -/
def holeAt (hs : List (Nat × Nat)) (j : Nat) : Option Nat := (hs.find? fun p => Nat.beq p.1 j).map (·.2)
/-- What an object is in memory. -/
def RepO (w : World) (g : Gh) (id : Nat) : Option Obj → Prop
  | none | some .gone => ¬ g.has id
  | some (.box T sz x) => g.has id ∧ ∃ cur, w.heap[g.blk id]? = some (.cells cur T (0, 0)) ∧ cur.size = sz ∧ RepA w g x cur.toList
  | some (.row E sz xs) => (¬ g.has id ∧ xs = [] ∧ g.hdr id = .slice none 0 0) ∨
      (g.has id ∧ ∃ c cur, g.hdr id = .slice (some ⟨g.blk id, 0, none⟩) xs.length c ∧ w.heap[g.blk id]? = some (.cells cur E (0, 0)) ∧ cur.size = c * sz ∧
        xs.length ≤ c ∧ c ≤ maxLen ∧ RepF w g.S xs (List.replicate xs.length sz) (cur.toList.take (xs.length * sz)))
  | some (.mp ks xs) => g.has id ∧ g.hdr id = .map (some (g.blk id)) ∧ ∃ es clock, w.heap[g.blk id]? = some (.map es clock) ∧ es.toList.map (·.key) = ks ∧ RepE w g.S xs (es.toList.map (·.val))
  | some (.rr T E sz xss hs) => g.has id ∧ ∃ c cur, g.hdr id = .slice (some ⟨g.blk id, 0, none⟩) xss.length c ∧ w.heap[g.blk id]? = some (.cells cur T (0, 0)) ∧ cur.size = c ∧
      xss.length ≤ c ∧ c ≤ maxLen ∧ ∀ j xs, xss[j]? = some xs → ∃ u, cur[j]? = some u ∧ match holeAt hs j with
        | some d => u = g.hdr d
        | none => RepIn w g.S (g.sub id j) E sz xs u
/-- Which objects a value names. -/
def AV.refs : AV → Nat → Prop
  | .oref id, k | .pt id _ _, k | .vw id _ _ _, k => k = id
  | .fb _ fs cs, k => k ∈ fs ∨ k ∈ cs
  | .st _ xs, k => refsL xs k
  | _, _ => False
where refsL : List AV → Nat → Prop
  | [], _ => False
  | x :: xs, k => AV.refs x k ∨ refsL xs k
def St.Ok3 (σ : St) : Prop := ∀ i T E sz xss hs, σ.obj i = some (.rr T E sz xss hs) → ∀ p ∈ hs, σ.obj p.2 ≠ none
/-- Every object that is named is there. -/
def St.Ok (σ : St) : Prop := (∀ i k, (σ.slot i).refs k → σ.obj k ≠ none) ∧ (∀ i T sz x, σ.obj i = some (.box T sz x) → ∀ k, x.refs k → σ.obj k ≠ none) ∧ σ.Ok3
/-- The own slices inside own ones are apart from all else. -/
def SubOk (w0 w : World) (g : Gh) : Prop := ∀ i j b, g.sub i j b → ¬ g.S b ∧ w0.heap.size ≤ b ∧ b < w.heap.size ∧ (∀ k, g.has k → g.blk k ≠ b) ∧ ∀ i' j', g.sub i' j' b → i' = i ∧ j' = j
/-- Which block an object may have: its own, made here; or, of those that were handed in, the very one. -/
def Mine (B : Nat → Nat → Prop) (w0 : World) (i k : Nat) : Prop := (i < 1000000 ∧ w0.heap.size ≤ k) ∨ (1000000 ≤ i ∧ B i k)
theorem Mine.old {B : Nat → Nat → Prop} {w0 : World} {i k : Nat} (h : Mine B w0 i k) (hk : k < w0.heap.size) : ∃ j, B j k := by
  rcases h with ⟨_, h⟩ | ⟨_, h⟩
  · omega
  · exact ⟨i, h⟩
theorem Mine.new {B : Nat → Nat → Prop} {w0 : World} {i k : Nat} (h : Mine B w0 i k) (hi : i < 1000000) : w0.heap.size ≤ k := by
  rcases h with ⟨_, h⟩ | ⟨h, _⟩ <;> omega
/-- What is asked of package variables holds, and stays so while nothing but blocks of B is written. -/
def GOk (B : Nat → Nat → Prop) (w : World) : Prop :=
  ∀ w' : World, w.heap.size ≤ w'.heap.size → (∀ k, k < w.heap.size → (∀ i, ¬ B i k) → w'.heap[k]? = w.heap[k]?) → GW w'
/-- What holds all through a function: what its arguments may name; what is deferred. -/
structure Cx where
  F : Nat → Prop
  D : List Deferred
structure RelG (B : Nat → Nat → Prop) (F : Cx) (w0 : World) (n : Nat) (σ : St) (a : Act) (w : World) (g : Gh) : Prop where
  os : w.os = w0.os
  tape : w.tape = w0.tape
  output : w.output = w0.output
  size : w0.heap.size ≤ w.heap.size
  old : ∀ k, k < w0.heap.size → (∀ i, ¬ B i k) → w.heap[k]? = w0.heap[k]?
  nlt : n ≤ 1000000
  glob : GOk B w0
  n : a.tmps.size = n
  defers : a.defers = F.D
  sF : ∀ k, g.S k → F.F k ∨ w0.heap.size ≤ k
  sB : ∀ k, g.S k → k < w.heap.size
  own : ∀ i, g.has i → ¬ g.S (g.blk i) ∧ Mine B w0 i (g.blk i) ∧ g.blk i < w.heap.size
  dj : ∀ i j, i ≠ j → g.has i → g.has j → g.blk i ≠ g.blk j
  slots : ∀ i, RepS w g (σ.slot i) (a.tmps.getD i undef)
  objs : ∀ i, RepO w g i (σ.obj i)
  ok : σ.Ok
  hv : ∀ i, (g.hdr i).oneCell' = true
  sub : SubOk w0 w g
theorem RelG.gok {B B' : Nat → Nat → Prop} {F : Cx} {w0 w : World} {n : Nat} {σ : St} {a : Act} {g : Gh} (h : RelG B F w0 n σ a w g)
    (hB : ∀ i k, B' i k → k < w0.heap.size → ∃ j, B j k) : GOk B' w := fun w' hs ho =>
  h.glob w' (Nat.le_trans h.size hs) fun k hk hne => by
    rw [ho k (Nat.lt_of_lt_of_le hk h.size) fun i hi => (hB i k hi hk).elim fun j hj => hne j hj]
    exact h.old k hk hne
def Rel (B : Nat → Nat → Prop) (F : Cx) (w0 : World) (n : Nat) (σ : St) (a : Act) (w : World) : Prop := ∃ g, RelG B F w0 n σ a w g
theorem fbV.frame {g g' : Gh} {R : Nat → Prop} (hb : ∀ i, R i → g'.blk i = g.blk i) {f : FuncId} {fs cs : List Nat} (hR : ∀ k, k ∈ fs ∨ k ∈ cs → R k) : fbV g f fs cs = fbV g' f fs cs := by
  unfold fbV
  have h : ∀ l : List Nat, (∀ k ∈ l, R k) → (l.map fun i => Value.pointer (some ⟨g.blk i, 0, none⟩)) = l.map fun i => Value.pointer (some ⟨g'.blk i, 0, none⟩) := fun l hl => List.map_congr_left fun k hk => by rw [hb k (hl k hk)]
  rw [h fs fun k hk => hR k (.inl hk), h cs fun k hk => hR k (.inr hk)]
mutual
theorem RepA.frame {w w' : World} {g g' : Gh} (hS : ∀ k, g.S k → g'.S k) (h : ∀ k, g.S k → k < w.heap.size → w'.heap[k]? = w.heap[k]?)
    (R : Nat → Prop) (hb : ∀ i, R i → g'.blk i = g.blk i) (hh : ∀ i, R i → g'.hdr i = g.hdr i) :
    ∀ (x : AV) (cs : List Value), (∀ k, x.refs k → R k) → RepA w g x cs → RepA w' g' x cs
  | .dat x, cs, _, hr => RepD.frame hS h x cs hr
  | .st ns xs, cs, hR, hr => RepAF.frame hS h R hb hh xs ns cs (fun k hk => hR k (by simpa [AV.refs] using hk)) hr
  | .oref id, cs, hR, hr => by simp only [RepA] at hr ⊢; rw [hr, hh id (hR id (by simp [AV.refs]))]
  | .pt id p off, cs, hR, hr => by simp only [RepA] at hr ⊢; rw [hr, hb id (hR id (by simp [AV.refs]))]
  | .vw id l h sz, cs, hR, hr => by simp only [RepA] at hr ⊢; rw [hr, hh id (hR id (by simp [AV.refs]))]
  | .fb f fs ks, cs, hR, hr => by simp only [RepA] at hr ⊢; rw [hr, fbV.frame hb fun k hk => hR k (by simpa [AV.refs] using hk)]
  | .sp x, cs, _, hr => by
    simp only [RepA] at hr ⊢
    obtain ⟨b, o, ds, e, h2, h3⟩ := hr
    exact ⟨b, o, ds, e, RepD.frame hS h x ds h2, h3.imp id fun ⟨h1, h3⟩ => ⟨hS b h1, fun j u hj => cell?_heap h h1 (h3 j u hj)⟩⟩
  | .dead, cs, _, hr => by simp only [RepA] at hr ⊢; exact hr
theorem RepAF.frame {w w' : World} {g g' : Gh} (hS : ∀ k, g.S k → g'.S k) (h : ∀ k, g.S k → k < w.heap.size → w'.heap[k]? = w.heap[k]?)
    (R : Nat → Prop) (hb : ∀ i, R i → g'.blk i = g.blk i) (hh : ∀ i, R i → g'.hdr i = g.hdr i) :
    ∀ (xs : List AV) (ns : List Nat) (cs : List Value), (∀ k, AV.refs.refsL xs k → R k) → RepAF w g xs ns cs → RepAF w' g' xs ns cs
  | [], _, _, _, hr => by simpa only [RepAF] using hr
  | x :: xs, ns, cs, hR, hr => by
    simp only [RepAF] at hr ⊢
    obtain ⟨n, ns', c1, c2, e1, e2, e3, h1, h2⟩ := hr
    exact ⟨n, ns', c1, c2, e1, e2, e3, RepA.frame hS h R hb hh x c1 (fun k hk => hR k (.inl hk)) h1, RepAF.frame hS h R hb hh xs ns' c2 (fun k hk => hR k (.inr hk)) h2⟩
end
theorem RepS.frame {w w' : World} {g g' : Gh} (hS : ∀ k, g.S k → g'.S k) (h : ∀ k, g.S k → k < w.heap.size → w'.heap[k]? = w.heap[k]?)
    (R : Nat → Prop) (hb : ∀ i, R i → g'.blk i = g.blk i) (hh : ∀ i, R i → g'.hdr i = g.hdr i) {x : AV} {u : Value} (hR : ∀ k, x.refs k → R k)
    (hr : RepS w g x u) : RepS w' g' x u := by
  cases x with
  | dat x => exact RepV.frame hS h hr
  | st ns xs => obtain ⟨cs, e, hd⟩ := hr; exact ⟨cs, e, RepA.frame hS h R hb hh _ _ hR hd⟩
  | oref id => simp only [RepS] at hr ⊢; rw [hr, hh id (hR id (by simp [AV.refs]))]
  | pt id p off => simp only [RepS] at hr ⊢; rw [hr, hb id (hR id (by simp [AV.refs]))]
  | vw id l h sz => simp only [RepS] at hr ⊢; rw [hr, hh id (hR id (by simp [AV.refs]))]
  | fb f fs ks => simp only [RepS] at hr ⊢; rw [hr, fbV.frame hb fun k hk => hR k (by simpa [AV.refs] using hk)]
  | sp x => exact RepA.frame hS h R hb hh _ _ hR hr
  | dead => trivial
/-! ### Writing into a state -/
def St.put (σ : St) (d : Nat) (x : AV) : St := { σ with slot := fun i => if Nat.beq i d then x else σ.slot i }
def St.set (σ : St) (d : Nat) (o : Obj) : St := { σ with obj := fun i => if Nat.beq i d then some o else σ.obj i }
theorem St.slot_put (σ : St) (d : Nat) (x : AV) (i : Nat) : (σ.put d x).slot i = if i = d then x else σ.slot i := by
  simp [St.put, Nat.beq_eq]
theorem St.obj_set (σ : St) (d : Nat) (o : Obj) (i : Nat) : (σ.set d o).obj i = if i = d then some o else σ.obj i := by
  simp [St.set, Nat.beq_eq]
end Go.Sim
/- What is proved: what places inside a datum are, and what it is to read and to replace what lies there. -/
namespace Go.Sim
open Go.RowKit
/-! ### The table of types -/
inductive TyD where
  | int (k : IntKind) | bool | str | flt (k : FloatKind)
  | slice (e : TypeId) | arr (n : Nat) (e : TypeId) | struct (fs : List (Nat × TypeId)) | ptr (e : TypeId) | other
def TyD.ok : TyD → TypeDesc → Prop
  | .int k, .int k' => k = k'
  | .bool, .bool => True
  | .str, .string => True
  | .flt k, .float k' => k = k'
  | .slice e, .slice e' => e = e'
  | .arr n e, .array n' e' => n = n' ∧ e = e'
  | .struct fs, .struct gs => gs.toList.map (fun f => (f.offset, f.type)) = fs
  | .ptr e, .pointer e' => e = e'
  | .other, .struct _ | .other, .array _ _ => False
  | .other, _ => True
  | _, _ => False
def TyD.agg : TyD → Bool
  | .arr .. | .struct .. => true
  | _ => false
structure TE where
  d : TyD
  size : Nat
  bytes : Nat
  zero : DV
abbrev Tab := List (Option TE)
def tget (T : Tab) (t : TypeId) : Option TE := match T[t]? with | some x => x | none => none
mutual
/-- The cells of a datum that needs no memory. -/
def flat : DV → Option (List Value)
  | .v x => if x.oneCell' then some [x] else none
  | .st ns xs => flatF xs ns
  | .ar sz xs => flatF xs (List.replicate xs.length sz)
  | .sl _ _ xs => match xs with | [] => some [.slice none 0 0] | _ => none
  | .tup _ => none
  | .pd _ => none
  | .fn .. => none
  | .mp .. => none
  | .any _ => none
def flatF : List DV → List Nat → Option (List Value)
  | [], [] => some []
  | x :: xs, n :: ns => match flat x, flatF xs ns with
    | some c, some d => if c.length = n then some (c ++ d) else none
    | _, _ => none
  | _, _ => none
end
mutual
theorem RepD.of_flat {w : World} {S : Nat → Prop} : ∀ (x : DV) (cs : List Value), flat x = some cs → RepD w S x cs
  | .v x, cs, h => by simp only [flat] at h; split at h <;> simp_all [RepD]
  | .st ns xs, cs, h => RepF.of_flat xs ns cs (by simpa only [flat] using h)
  | .ar sz xs, cs, h => RepF.of_flat xs _ cs (by simpa only [flat] using h)
  | .sl E sz xs, cs, h => by
    cases xs with
    | nil => simp only [flat, Option.some.injEq] at h; subst h; simp only [RepD]; exact ⟨none, 0, [], rfl, by simp, by simp [RepF], by simp⟩
    | cons a b => simp [flat] at h
  | .tup _, cs, h => by simp [flat] at h
  | .pd _, cs, h => by simp [flat] at h
  | .fn _ _, cs, h => by simp [flat] at h
  | .any _, cs, h => by simp [flat] at h
  | .mp _ _, cs, h => by simp [flat] at h
theorem RepF.of_flat {w : World} {S : Nat → Prop} : ∀ (xs : List DV) (ns : List Nat) (cs : List Value), flatF xs ns = some cs → RepF w S xs ns cs
  | [], ns, cs, h => by cases ns <;> simp_all [flatF, RepF]
  | x :: xs, ns, cs, h => by
    cases ns with
    | nil => simp [flatF] at h
    | cons n ns =>
      simp only [flatF] at h
      split at h
      · rename_i c d hc hd
        split at h
        · rename_i hl
          simp only [Option.some.injEq] at h
          subst h
          simp only [RepF]
          exact ⟨n, ns, c, d, rfl, rfl, hl, RepD.of_flat x c hc, RepF.of_flat xs ns d hd⟩
        · cases h
      · cases h
end
def DV.len : DV → Nat
  | .v _ => 1
  | .st ns _ => ns.sum
  | .ar sz xs => xs.length * sz
  | .sl .. => 1
  | .tup _ => 0
  | .pd _ => 1
  | .fn .. => 1
  | .mp .. => 1
  | .any _ => 1
theorem RepD.len {w : World} {S : Nat → Prop} {x : DV} {cs : List Value} (h : RepD w S x cs) : cs.length = x.len := by
  cases x with
  | v x => simp only [RepD] at h; simp [h.1, DV.len]
  | st ns xs => exact (RepF.length h).1
  | ar sz xs => have := (RepF.length h).1; simpa [DV.len] using this
  | sl E sz xs => simp only [RepD] at h; obtain ⟨a, c, row, rfl, _⟩ := h; rfl
  | tup xs => simp only [RepD] at h
  | pd x => simp only [RepD] at h; obtain ⟨b, o, ds, rfl, _⟩ := h; rfl
  | fn f xs => simp only [RepD] at h; obtain ⟨vs, rfl, _⟩ := h; rfl
  | any p => simp only [RepD] at h; obtain ⟨v, rfl, _⟩ := h; rfl
  | mp ks xs => simp only [RepD] at h; obtain ⟨r, es, clock, rfl, _⟩ := h; rfl
/-- A zero value's form. -/
def aggOk (b : Bool) : Value → Prop
  | .agg _ => b = true
  | .tuple _ => False
  | _ => b = false
def EntryOk (P : Program) (t : TypeId) (te : TE) : Prop :=
  ∃ i d z, P.info? t = some i ∧ P.underlying t = some d ∧ te.d.ok d ∧ i.size = te.size ∧ i.bytes = te.bytes ∧ i.zero = some z ∧
    flat te.zero = some z.cells.toList ∧ te.zero.agg = te.d.agg ∧ aggOk te.d.agg z ∧ te.zero.len = te.size
def TabOk (P : Program) (T : Tab) : Prop := ∀ t te, tget T t = some te → EntryOk P t te
theorem RepU.of_flat {w : World} {S : Nat → Prop} {x : DV} {z : Value} {b : Bool} (h7 : flat x = some z.cells.toList) (h8 : x.agg = b)
    (h9 : aggOk b z) : RepU w S x z := by
  have hd := RepD.of_flat (w := w) (S := S) _ _ h7
  unfold RepU
  rw [h8]
  cases z <;> simp_all [Value.cells, aggOk]
  rename_i cs; exact ⟨cs.toList, by simp, hd⟩
/-! ### Places inside data -/
def locD : DV → List Pa → Nat → Option (Nat × DV)
  | x, [], off => some (off, x)
  | .st ns xs, .fld i :: p, off => match xs[i]? with | some y => locD y p (off + (ns.take i).sum) | none => none
  | .ar sz xs, .idx i :: p, off => match xs[i]? with | some y => locD y p (off + i * sz) | none => none
  | _, _, _ => none
def putD : DV → List Pa → DV → Option DV
  | _, [], y => some y
  | .st ns xs, .fld i :: p, y => match xs[i]? with
    | some z => match putD z p y with | some z' => some (.st ns (xs.set i z')) | none => none
    | none => none
  | .ar sz xs, .idx i :: p, y => match xs[i]? with
    | some z => match putD z p y with | some z' => some (.ar sz (xs.set i z')) | none => none
    | none => none
  | _, _, _ => none
theorem take_replicate_sum (n sz i : Nat) (h : i ≤ n) : ((List.replicate n sz).take i).sum = i * sz := by
  rw [List.take_replicate, List.sum_replicate_nat, Nat.min_eq_left h]
theorem RepD.loc {w : World} {S : Nat → Prop} : ∀ (p : List Pa) (x : DV) (cs : List Value) (off off' : Nat) (y : DV), RepD w S x cs → locD x p off = some (off', y) →
    ∃ c1 c2 c3, cs = c1 ++ c2 ++ c3 ∧ off' = off + c1.length ∧ RepD w S y c2 ∧
      ∀ w' S' y' c2' x', (∀ z c, RepD w S z c → RepD w' S' z c) → c2'.length = c2.length → RepD w' S' y' c2' → putD x p y' = some x' → RepD w' S' x' (c1 ++ c2' ++ c3)
  | [], x, cs, off, off', y, h, hl => by
    simp only [locD, Option.some.injEq, Prod.mk.injEq] at hl
    obtain ⟨rfl, rfl⟩ := hl
    refine ⟨[], cs, [], by simp, by simp, h, ?_⟩
    intro w' S' y' c2' x' _ _ hy hp
    simp only [putD, Option.some.injEq] at hp
    subst hp
    simpa using hy
  | .fld i :: p, x, cs, off, off', y, h, hl => by
    cases x with
    | st ns xs =>
      simp only [locD] at hl
      split at hl
      · rename_i z hz
        simp only [RepD] at h
        obtain ⟨c1, c2, c3, n, hn, e, hl1, hl2, hd, hput⟩ := RepF.at h hz
        obtain ⟨d1, d2, d3, e2, ho, hd2, hput2⟩ := RepD.loc p z c2 _ off' y hd hl
        refine ⟨c1 ++ d1, d2, d3 ++ c3, by simp [e, e2], by simp [ho, hl1]; omega, hd2, ?_⟩
        intro w' S' y' c2' x' hfr hlen hy hp
        simp only [putD, hz] at hp
        split at hp
        · rename_i z' hz'
          simp only [Option.some.injEq] at hp
          subst hp
          have hz2 := hput2 w' S' y' c2' z' hfr hlen hy hz'
          have := hput w' S' z' (d1 ++ c2' ++ d3) hfr (by rw [← hl2, e2]; simp [hlen]) hz2
          simp only [RepD]
          simpa using this
        · cases hp
      · cases hl
    | _ => simp [locD] at hl
  | .idx i :: p, x, cs, off, off', y, h, hl => by
    cases x with
    | ar sz xs =>
      simp only [locD] at hl
      split at hl
      · rename_i z hz
        have hi : i < xs.length := (List.getElem?_eq_some_iff.1 hz).1
        simp only [RepD] at h
        obtain ⟨c1, c2, c3, n, hn, e, hl1, hl2, hd, hput⟩ := RepF.at h hz
        rw [take_replicate_sum _ _ _ (Nat.le_of_lt hi)] at hl1
        obtain ⟨d1, d2, d3, e2, ho, hd2, hput2⟩ := RepD.loc p z c2 _ off' y hd hl
        refine ⟨c1 ++ d1, d2, d3 ++ c3, by simp [e, e2], by simp [ho, hl1]; omega, hd2, ?_⟩
        intro w' S' y' c2' x' hfr hlen hy hp
        simp only [putD, hz] at hp
        split at hp
        · rename_i z' hz'
          simp only [Option.some.injEq] at hp
          subst hp
          have hz2 := hput2 w' S' y' c2' z' hfr hlen hy hz'
          have := hput w' S' z' (d1 ++ c2' ++ d3) hfr (by rw [← hl2, e2]; simp [hlen]) hz2
          simp only [RepD, List.length_set]
          simpa using this
        · cases hp
      · cases hl
    | _ => simp [locD] at hl
def AV.len : AV → Nat
  | .dat x => x.len
  | .st ns _ => ns.sum
  | _ => 1
theorem RepAF.length {w : World} {g : Gh} : ∀ {xs : List AV} {ns : List Nat} {cs : List Value}, RepAF w g xs ns cs → cs.length = ns.sum
  | [], _, _, h => by simp only [RepAF] at h; obtain ⟨rfl, rfl⟩ := h; simp
  | x :: xs, ns, cs, h => by
    simp only [RepAF] at h
    obtain ⟨n, ns', c1, c2, rfl, rfl, rfl, _, h2⟩ := h
    simp [RepAF.length h2]
theorem RepA.len {w : World} {g : Gh} {x : AV} {cs : List Value} (h : RepA w g x cs) : cs.length = x.len := by
  cases x with
  | dat x => exact RepD.len h
  | st ns xs => exact RepAF.length h
  | oref id => simp only [RepA] at h; simp [h, AV.len]
  | pt id p off => simp only [RepA] at h; simp [h, AV.len]
  | fb f fs ks => simp only [RepA] at h; simp [h, AV.len]
  | vw id l h sz => simp only [RepA] at h; simp [h, AV.len]
  | sp x => simp only [RepA] at h; obtain ⟨b, o, ds, rfl, _⟩ := h; rfl
  | dead => simp only [RepA] at h; obtain ⟨u, rfl, _⟩ := h; rfl
def locA : AV → List Pa → Nat → Option (Nat × AV)
  | x, [], off => some (off, x)
  | .dat x, p, off => match locD x p off with | some (o, y) => some (o, .dat y) | none => none
  | .st ns xs, .fld i :: p, off => match xs[i]? with | some y => locA y p (off + (ns.take i).sum) | none => none
  | _, _, _ => none
/-- A struct's fields, one of them another. -/
def setF (ns : List Nat) (xs : List DV) (i : Nat) : AV → AV
  | .dat d => .dat (.st ns (xs.set i d))
  | z => .st ns ((xs.map .dat).set i z)
def putA : AV → List Pa → AV → Option AV
  | _, [], y => some y
  | .dat (.st ns xs), .fld i :: p, y => match xs[i]? with
    | some z => match putA (.dat z) p y with | some z' => some (setF ns xs i z') | none => none
    | none => none
  | .dat x, p, .dat y => match putD x p y with | some z => some (.dat z) | none => none
  | .st ns xs, .fld i :: p, y => match xs[i]? with
    | some z => match putA z p y with | some z' => some (.st ns (xs.set i z')) | none => none
    | none => none
  | _, _, _ => none
theorem RepAF.at {w : World} {g : Gh} : ∀ {xs : List AV} {ns : List Nat} {cs : List Value} {i : Nat} {x : AV}, RepAF w g xs ns cs → xs[i]? = some x →
    ∃ c1 c2 c3 n, ns[i]? = some n ∧ cs = c1 ++ c2 ++ c3 ∧ c1.length = (ns.take i).sum ∧ c2.length = n ∧ RepA w g x c2 ∧
      ∀ (R : AV → Prop) w' g' y c2', (∀ z ∈ xs, R z) → (∀ z c, R z → RepA w g z c → RepA w' g' z c) → c2'.length = n → RepA w' g' y c2' → RepAF w' g' (xs.set i y) ns (c1 ++ c2' ++ c3)
  | [], _, _, _, _, _, hx => by simp at hx
  | x0 :: xs, ns, cs, 0, x, h, hx => by
    simp only [RepAF] at h
    obtain ⟨n, ns', c1, c2, rfl, rfl, e3, h1, h2⟩ := h
    simp at hx; subst hx
    refine ⟨[], c1, c2, n, by simp, by simp, by simp, e3, h1, ?_⟩
    intro R w' g' y c2' hR hfr hl hy
    simp only [List.set_cons_zero, RepAF, List.nil_append]
    refine ⟨n, ns', c2', c2, rfl, rfl, hl, hy, ?_⟩
    clear h1 hy hl e3 c1
    induction xs generalizing ns' c2 with
    | nil => simpa only [RepAF] using h2
    | cons z zs ih =>
      simp only [RepAF] at h2 ⊢
      obtain ⟨n', ns'', d1, d2, e1, e2, e4, k1, k2⟩ := h2
      exact ⟨n', ns'', d1, d2, e1, e2, e4, hfr _ _ (hR z (by simp)) k1, ih _ _ k2 (fun z' hz' => hR z' (by simp at hz' ⊢; rcases hz' with h | h <;> simp [h]))⟩
  | x0 :: xs, ns, cs, i + 1, x, h, hx => by
    simp only [RepAF] at h
    obtain ⟨n, ns', c1, c2, rfl, rfl, e3, h1, h2⟩ := h
    simp at hx
    obtain ⟨d1, d2, d3, m, hm, e, hl1, hl2, hd, hput⟩ := RepAF.at h2 hx
    refine ⟨c1 ++ d1, d2, d3, m, by simpa using hm, by simp [e], by simp [hl1, e3], hl2, hd, ?_⟩
    intro R w' g' y c2' hR hfr hl hy
    simp only [List.set_cons_succ, RepAF]
    exact ⟨n, ns', c1, d1 ++ c2' ++ d3, rfl, by simp, e3, hfr _ _ (hR x0 (by simp)) h1, hput R w' g' y c2' (fun z hz => hR z (by simp [hz])) hfr hl hy⟩
theorem RepAF.of_F {w : World} {g : Gh} : ∀ {xs : List DV} {ns : List Nat} {cs : List Value}, RepF w g.S xs ns cs → RepAF w g (xs.map .dat) ns cs
  | [], _, _, h => by simpa only [RepF, RepAF, List.map_nil] using h
  | x :: xs, ns, cs, h => by
    simp only [RepF, RepAF, List.map_cons, RepA] at h ⊢
    obtain ⟨n, ns', c1, c2, e1, e2, e3, h1, h2⟩ := h
    exact ⟨n, ns', c1, c2, e1, e2, e3, h1, RepAF.of_F h2⟩
end Go.Sim
/- What is proved: places inside abstract values; the state's relation when a slot is written, memory is made, or a cell of an own object is written. -/
namespace Go.Sim
open Go.RowKit
theorem locA_dat (x : DV) (p : List Pa) (off : Nat) : locA (.dat x) p off = match locD x p off with | some (o, y) => some (o, .dat y) | none => none := by
  cases p with
  | nil => simp [locA, locD]
  | cons s p => rfl
theorem refs_setF (ns : List Nat) (xs : List DV) (i : Nat) (z : AV) (k : Nat) (h : (setF ns xs i z).refs k) : z.refs k := by
  cases z <;> simp only [setF, AV.refs] at h ⊢
  all_goals
    revert i
    induction xs with
    | nil => intro i h; simp [AV.refs.refsL] at h
    | cons x xs ih =>
      intro i h
      cases i with
      | zero =>
        simp only [List.map_cons, List.set_cons_zero, AV.refs.refsL] at h
        rcases h with h | h
        · first | exact h | (simp only [AV.refs] at h; exact h)
        · exfalso
          clear ih
          induction xs with
          | nil => simp [AV.refs.refsL] at h
          | cons y ys ih => simp only [List.map_cons, AV.refs.refsL, AV.refs, false_or] at h; exact ih h
      | succ i =>
        simp only [List.map_cons, List.set_cons_succ, AV.refs.refsL, AV.refs, false_or] at h
        exact ih i h
theorem refsL_mem : ∀ {xs : List AV} {z : AV} {k : Nat}, z ∈ xs → z.refs k → AV.refs.refsL xs k
  | x :: xs, z, k, hz, h => by
    simp only [AV.refs.refsL]
    rcases List.mem_cons.1 hz with rfl | hz
    · exact .inl h
    · exact .inr (refsL_mem hz h)
theorem refsL_set : ∀ {xs : List AV} {i : Nat} {y : AV} {k : Nat}, AV.refs.refsL (xs.set i y) k → AV.refs.refsL xs k ∨ y.refs k
  | [], _, _, _, h => by simp [AV.refs.refsL] at h
  | x :: xs, 0, y, k, h => by
    simp only [List.set_cons_zero, AV.refs.refsL] at h ⊢
    rcases h with h | h
    · exact .inr h
    · exact .inl (.inr h)
  | x :: xs, i + 1, y, k, h => by
    simp only [List.set_cons_succ, AV.refs.refsL] at h ⊢
    rcases h with h | h
    · exact .inl (.inl h)
    · rcases refsL_set h with h | h
      · exact .inl (.inr h)
      · exact .inr h
theorem RepA.setF {w : World} {g : Gh} {ns : List Nat} {xs : List DV} {i : Nat} {z : AV} {cs : List Value} (h : RepAF w g ((xs.map .dat).set i z) ns cs) : RepA w g (setF ns xs i z) cs := by
  cases z with
  | dat d =>
    simp only [Sim.setF, RepA, RepD]
    have : (xs.map AV.dat).set i (.dat d) = (xs.set i d).map .dat := by rw [List.map_set]
    rw [this] at h
    clear this
    generalize xs.set i d = ys at h
    clear xs i d
    induction ys generalizing ns cs with
    | nil => simpa only [RepF, RepAF, List.map_nil] using h
    | cons y ys ih =>
      simp only [List.map_cons, RepAF, RepF, RepA] at h ⊢
      obtain ⟨n, ns', c1, c2, e1, e2, e3, h1, h2⟩ := h
      exact ⟨n, ns', c1, c2, e1, e2, e3, h1, ih h2⟩
  | _ => simpa only [Sim.setF, RepA] using h
theorem RepA.loc {w : World} {g : Gh} : ∀ (p : List Pa) (x : AV) (cs : List Value) (off off' : Nat) (y : AV), RepA w g x cs → locA x p off = some (off', y) →
    ∃ c1 c2 c3, cs = c1 ++ c2 ++ c3 ∧ off' = off + c1.length ∧ RepA w g y c2 ∧ (∀ k, y.refs k → x.refs k) ∧
      ∀ w' g' y' c2' x', (∀ z c, (∀ k, z.refs k → x.refs k) → RepA w g z c → RepA w' g' z c) → c2'.length = c2.length → RepA w' g' y' c2' → putA x p y' = some x' →
        RepA w' g' x' (c1 ++ c2' ++ c3) ∧ ∀ k, x'.refs k → x.refs k ∨ y'.refs k
  | [], x, cs, off, off', y, h, hl => by
    simp only [locA, Option.some.injEq, Prod.mk.injEq] at hl
    obtain ⟨rfl, rfl⟩ := hl
    refine ⟨[], cs, [], by simp, by simp, h, fun _ h => h, ?_⟩
    intro w' g' y' c2' x' _ _ hy hp
    simp only [putA, Option.some.injEq] at hp
    subst hp
    exact ⟨by simpa using hy, fun _ h => .inr h⟩
  | .fld i :: p, .dat (.st ns xs), cs, off, off', y, h, hl => by
    rw [locA_dat] at hl
    simp only [locD] at hl
    cases hz : xs[i]? with
    | none => simp [hz] at hl
    | some z =>
      simp only [hz] at hl
      rw [← locA_dat] at hl
      have hF := RepAF.of_F (w := w) (g := g) h
      have hz' : (xs.map AV.dat)[i]? = some (.dat z) := by simp [hz]
      obtain ⟨c1, c2, c3, n, hn, e, hl1, hl2, hd, hput⟩ := RepAF.at hF hz'
      obtain ⟨d1, d2, d3, e2, ho, hd2, hrf, hput2⟩ := RepA.loc p (.dat z) c2 _ off' y hd hl
      refine ⟨c1 ++ d1, d2, d3 ++ c3, by simp [e, e2], by simp [ho, hl1]; omega, hd2, fun k hk => by have := hrf k hk; simp [AV.refs] at this, ?_⟩
      intro w' g' y' c2' x' hfr hlen hy hp
      simp only [putA, hz] at hp
      split at hp
      · rename_i z' hz2
        simp only [Option.some.injEq] at hp
        subst hp
        obtain ⟨k1, k2⟩ := hput2 w' g' y' c2' z' (fun z c hz hr => hfr z c (fun k hk => by have := hz k hk; simp [AV.refs] at this) hr) hlen hy hz2
        have := hput (fun z => ∀ k, ¬ z.refs k) w' g' z' (d1 ++ c2' ++ d3) (fun z hz k => by simp at hz; obtain ⟨a, _, rfl⟩ := hz; simp [AV.refs]) (fun z c hz hr => hfr z c (fun k hk => absurd hk (hz k)) hr) (by rw [← hl2, e2]; simp [hlen]) k1
        refine ⟨?_, fun k hk => ?_⟩
        · have := RepA.setF this
          simpa using this
        · have := refs_setF _ _ _ _ _ hk
          rcases k2 k this with h | h
          · simp [AV.refs] at h
          · exact .inr h
      · cases hp
  | .idx i :: p, .dat (.ar sz xs), cs, off, off', y, h, hl => by
    rw [locA_dat] at hl
    cases hh : locD (.ar sz xs) (.idx i :: p) off with
    | none => simp [hh] at hl
    | some r =>
      obtain ⟨o, y0⟩ := r
      simp only [hh, Option.some.injEq, Prod.mk.injEq] at hl
      obtain ⟨rfl, rfl⟩ := hl
      obtain ⟨c1, c2, c3, e, ho, hd, hput⟩ := RepD.loc (S := g.S) (.idx i :: p) (.ar sz xs) cs off o y0 h hh
      refine ⟨c1, c2, c3, e, ho, hd, fun k hk => by simp [AV.refs] at hk, ?_⟩
      intro w' g' y' c2' x' hfr hlen hy hp
      cases y' with
      | dat d =>
        simp only [putA] at hp
        split at hp
        · rename_i z hz
          simp only [Option.some.injEq] at hp
          subst hp
          exact ⟨hput w' g'.S d c2' z (fun z c hr => hfr (.dat z) c (fun k hk => by simp [AV.refs] at hk) hr) hlen hy hz, fun k hk => by simp [AV.refs] at hk⟩
        · cases hp
      | _ => simp [putA] at hp
  | .fld i :: p, .st ns xs, cs, off, off', y, h, hl => by
    simp only [locA] at hl
    cases hz : xs[i]? with
    | none => simp [hz] at hl
    | some z =>
      simp only [hz] at hl
      simp only [RepA] at h
      have hmem : z ∈ xs := List.mem_of_getElem? hz
      obtain ⟨c1, c2, c3, n, hn, e, hl1, hl2, hd, hput⟩ := RepAF.at h hz
      obtain ⟨d1, d2, d3, e2, ho, hd2, hrf, hput2⟩ := RepA.loc p z c2 _ off' y hd hl
      refine ⟨c1 ++ d1, d2, d3 ++ c3, by simp [e, e2], by simp [ho, hl1]; omega, hd2, fun k hk => by simp only [AV.refs]; exact refsL_mem hmem (hrf k hk), ?_⟩
      intro w' g' y' c2' x' hfr hlen hy hp
      simp only [putA, hz] at hp
      split at hp
      · rename_i z' hz2
        simp only [Option.some.injEq] at hp
        subst hp
        obtain ⟨k1, k2⟩ := hput2 w' g' y' c2' z' (fun v c hv hr => hfr v c (fun k hk => by simp only [AV.refs]; exact refsL_mem hmem (hv k hk)) hr) hlen hy hz2
        have := hput (fun v => v ∈ xs) w' g' z' (d1 ++ c2' ++ d3) (fun z hz => hz) (fun v c hv hr => hfr v c (fun k hk => by simp only [AV.refs]; exact refsL_mem hv hk) hr) (by rw [← hl2, e2]; simp [hlen]) k1
        refine ⟨by simp only [RepA]; simpa using this, fun k hk => ?_⟩
        simp only [AV.refs] at hk ⊢
        rcases refsL_set hk with h | h
        · exact .inl h
        · rcases k2 k h with h | h
          · exact .inl (refsL_mem hmem h)
          · exact .inr h
      · cases hp
  | .fld _ :: _, .dat (.v _), _, _, _, _, _, hl => by simp [locA, locD] at hl
  | .fld _ :: _, .dat (.ar ..), _, _, _, _, _, hl => by simp [locA, locD] at hl
  | .fld _ :: _, .dat (.sl ..), _, _, _, _, _, hl => by simp [locA, locD] at hl
  | .fld _ :: _, .dat (.tup _), _, _, _, _, _, hl => by simp [locA, locD] at hl
  | .idx _ :: _, .dat (.v _), _, _, _, _, _, hl => by simp [locA, locD] at hl
  | .idx _ :: _, .dat (.st ..), _, _, _, _, _, hl => by simp [locA, locD] at hl
  | .idx _ :: _, .dat (.sl ..), _, _, _, _, _, hl => by simp [locA, locD] at hl
  | .idx _ :: _, .dat (.tup _), _, _, _, _, _, hl => by simp [locA, locD] at hl
  | .idx _ :: _, .st .., _, _, _, _, _, hl => by simp [locA] at hl
  | .fld _ :: _, .oref _, _, _, _, _, _, hl => by simp [locA] at hl
  | .idx _ :: _, .oref _, _, _, _, _, _, hl => by simp [locA] at hl
  | .fld _ :: _, .pt .., _, _, _, _, _, hl => by simp [locA] at hl
  | .idx _ :: _, .pt .., _, _, _, _, _, hl => by simp [locA] at hl
  | .fld _ :: _, .fb .., _, _, _, _, _, hl => by simp [locA] at hl
  | .fld _ :: _, .vw .., _, _, _, _, _, hl => by simp [locA] at hl
  | .idx _ :: _, .vw .., _, _, _, _, _, hl => by simp [locA] at hl
  | .idx _ :: _, .fb .., _, _, _, _, _, hl => by simp [locA] at hl
  | .fld _ :: _, .sp _, _, _, _, _, _, hl => by simp [locA] at hl
  | .idx _ :: _, .sp _, _, _, _, _, _, hl => by simp [locA] at hl
  | .fld _ :: _, .dead, _, _, _, _, _, hl => by simp [locA] at hl
  | .idx _ :: _, .dead, _, _, _, _, _, hl => by simp [locA] at hl
end Go.Sim
/- What is proved: a frame and a memory go on holding an abstract state when a slot is written, the world moves on, memory is made, or an own object is written. -/
namespace Go.Sim
open Go.RowKit
section
variable {B : Nat → Nat → Prop} {F : Cx} {w0 w : World} {n : Nat} {σ : St} {a : Act} {g : Gh}
def upd {α : Type} (f : Nat → α) (d : Nat) (x : α) : Nat → α := fun i => if i = d then x else f i
theorem upd_same {α : Type} (f : Nat → α) (d : Nat) (x : α) : upd f d x d = x := by simp [upd]
theorem upd_ne {α : Type} (f : Nat → α) (d : Nat) (x : α) {i : Nat} (h : i ≠ d) : upd f d x i = f i := by simp [upd, h]
theorem RelG.slots' (h : RelG B F w0 n σ a w g) {w' : World} {g' : Gh} (hS : ∀ k, g.S k → g'.S k) (hm : ∀ k, g.S k → k < w.heap.size → w'.heap[k]? = w.heap[k]?)
    (hb : ∀ i, σ.obj i ≠ none → g'.blk i = g.blk i) (hh : ∀ i, σ.obj i ≠ none → g'.hdr i = g.hdr i) (i : Nat) : RepS w' g' (σ.slot i) (a.tmps.getD i undef) :=
  RepS.frame hS hm (fun k => σ.obj k ≠ none) hb hh (h.ok.1 i) (h.slots i)
theorem RepO.frame (h : RelG B F w0 n σ a w g) {w' : World} {g' : Gh} (hS : ∀ k, g.S k → g'.S k) (hm : ∀ k, g.S k → k < w.heap.size → w'.heap[k]? = w.heap[k]?)
    (hb : ∀ i, σ.obj i ≠ none → g'.blk i = g.blk i) (hh : ∀ i, σ.obj i ≠ none → g'.hdr i = g.hdr i) (i : Nat) (hi : g'.has i ↔ g.has i)
    (hk : g.has i → w'.heap[g.blk i]? = w.heap[g.blk i]?) (hs1 : ∀ j b, g.sub i j b → g'.sub i j b) (hs2 : ∀ j b, g.sub i j b → w'.heap[b]? = w.heap[b]?) : RepO w' g' i (σ.obj i) := by
  have ho := h.objs i
  cases hσ : σ.obj i with
  | none => rw [hσ] at ho; simp only [RepO] at ho ⊢; rwa [hi]
  | some o =>
    rw [hσ] at ho
    have hne : σ.obj i ≠ none := by rw [hσ]; simp
    cases o with
    | gone => simp only [RepO] at ho ⊢; rwa [hi]
    | mp ks xs =>
      simp only [RepO] at ho ⊢
      obtain ⟨h1, h2, es, clock, h3, h4, h5⟩ := ho
      exact ⟨hi.2 h1, by rw [hh i hne, hb i hne]; exact h2, es, clock, by rw [hb i hne, hk h1]; exact h3, h4, RepE.frame hS hm _ _ h5⟩
    | rr T E sz xss hs =>
      simp only [RepO] at ho ⊢
      obtain ⟨h1, c, cur, h2, h3, h4, h5, h6, h7⟩ := ho
      refine ⟨hi.2 h1, c, cur, by rw [hh i hne, hb i hne]; exact h2, by rw [hb i hne, hk h1]; exact h3, h4, h5, h6, fun j xs hj => ?_⟩
      obtain ⟨u, k1, k2⟩ := h7 j xs hj
      refine ⟨u, k1, ?_⟩
      cases hho : holeAt hs j with
      | some d =>
        rw [hho] at k2
        have hd : σ.obj d ≠ none := by
          unfold holeAt at hho
          rw [Option.map_eq_some_iff] at hho
          obtain ⟨p, hp, rfl⟩ := hho
          exact h.ok.2.2 i T E sz xss hs hσ p (List.mem_of_find?_eq_some hp)
        simp only at k2 ⊢
        rw [hh d hd]; exact k2
      | none =>
        rw [hho] at k2
        simp only at k2 ⊢
        rcases k2 with k2 | ⟨b0, c0, cur0, m1, m2, m3, m4, m5, m6, m7⟩
        · exact .inl k2
        · exact .inr ⟨b0, c0, cur0, hs1 j b0 m1, m2, by rw [hs2 j b0 m1]; exact m3, m4, m5, m6, RepF.frame hS hm _ _ _ m7⟩
    | box T sz x =>
      simp only [RepO] at ho ⊢
      obtain ⟨h1, cur, h2, h3, h4⟩ := ho
      exact ⟨hi.2 h1, cur, by rw [hb i hne, hk h1]; exact h2, h3, RepA.frame hS hm (fun k => σ.obj k ≠ none) hb hh x _ (h.ok.2.1 i T sz x hσ) h4⟩
    | row E sz xs =>
      simp only [RepO] at ho ⊢
      rcases ho with ⟨h1, h2, h3⟩ | ⟨h1, c, cur, h2, h3, h4, h5, h6, h7⟩
      · exact .inl ⟨fun hx => h1 (hi.1 hx), h2, by rw [hh i hne]; exact h3⟩
      · exact .inr ⟨hi.2 h1, c, cur, by rw [hh i hne, hb i hne]; exact h2, by rw [hb i hne, hk h1]; exact h3, h4, h5, h6, RepF.frame hS hm _ _ _ h7⟩
/-- A slot is written. -/
theorem RelG.put (h : RelG B F w0 n σ a w g) {x : AV} {u : Value} {d : Nat} (hx : RepS w g x u) (hr : ∀ k, x.refs k → σ.obj k ≠ none) (hd : d < n) :
    RelG B F w0 n (σ.put d x) (a.put (some d) u) w g where
  os := h.os
  tape := h.tape
  output := h.output
  size := h.size
  old := h.old
  n := by simp [Act.put, h.n]
  nlt := h.nlt
  glob := h.glob
  defers := h.defers
  sF := h.sF
  sB := h.sB
  own := h.own
  dj := h.dj
  slots := by
    intro i
    rw [St.slot_put]
    by_cases hi : i = d
    · subst hi
      have : i < a.tmps.size := by rw [h.n]; exact hd
      simpa [Act.put, this] using hx
    · have hne : d ≠ i := fun e => hi e.symm
      simp only [if_neg hi]
      have := h.slots i
      simpa [Act.put, Array.getElem?_setIfInBounds_ne hne] using this
  objs := h.objs
  ok := by
    refine ⟨fun i k hk => ?_, h.ok.2⟩
    rw [St.slot_put] at hk
    split at hk
    · exact hr k hk
    · exact h.ok.1 i k hk
  hv := h.hv
  sub := h.sub
/-- The world moves on: what was there is as it was; some of what is new may be shared. -/
theorem RelG.world (h : RelG B F w0 n σ a w g) {w' : World} (h1 : w'.os = w.os) (h2 : w'.tape = w.tape) (h3 : w'.output = w.output) (h4 : w.heap.size ≤ w'.heap.size)
    (h5 : ∀ k, k < w.heap.size → w'.heap[k]? = w.heap[k]?) (X : Nat → Prop) (hX : ∀ k, X k → w.heap.size ≤ k ∧ k < w'.heap.size) :
    RelG B F w0 n σ a w' { g with S := fun k => g.S k ∨ X k } where
  os := h1.trans h.os
  tape := h2.trans h.tape
  output := h3.trans h.output
  size := Nat.le_trans h.size h4
  old := fun k hk hB => (h5 k (Nat.lt_of_lt_of_le hk h.size)).trans (h.old k hk hB)
  n := h.n
  nlt := h.nlt
  glob := h.glob
  defers := h.defers
  sF := fun k hk => hk.elim (h.sF k) (fun hx => .inr (Nat.le_trans h.size (hX k hx).1))
  sB := fun k hk => hk.elim (fun hs => Nat.lt_of_lt_of_le (h.sB k hs) h4) (fun hx => (hX k hx).2)
  own := fun i hi => by
    obtain ⟨k1, k2, k3⟩ := h.own i hi
    refine ⟨fun hs => hs.elim k1 (fun hx => ?_), k2, Nat.lt_of_lt_of_le k3 h4⟩
    exact absurd (hX _ hx).1 (by simp; omega)
  dj := h.dj
  slots := h.slots' (g' := { g with S := fun k => g.S k ∨ X k }) (fun _ hk => .inl hk) (fun k _ hk => h5 k hk) (fun _ _ => rfl) (fun _ _ => rfl)
  objs := fun i => RepO.frame h (g' := { g with S := fun k => g.S k ∨ X k }) (fun _ hk => .inl hk) (fun k _ hk => h5 k hk) (fun _ _ => rfl) (fun _ _ => rfl) i Iff.rfl (fun hi => h5 _ (h.own i hi).2.2) (fun _ _ hb => hb) (fun j b hb => h5 b (h.sub i j b hb).2.2.1)
  ok := h.ok
  hv := h.hv
  sub := fun i j b hb => by
    obtain ⟨k1, k2, k3, k4, k5⟩ := h.sub i j b hb
    exact ⟨fun hs => hs.elim k1 (fun hx => by have := (hX b hx).1; omega), k2, Nat.lt_of_lt_of_le k3 h4, k4, k5⟩
theorem RelG.drew (h : RelG B F w0 n σ a w g) : RelG B F w0 n σ a w.drew g :=
  { h with
    slots := h.slots' (w' := w.drew) (fun _ hk => hk) (fun _ _ _ => rfl) (fun _ _ => rfl) (fun _ _ => rfl)
    objs := fun i => RepO.frame h (w' := w.drew) (fun _ hk => hk) (fun _ _ _ => rfl) (fun _ _ => rfl) (fun _ _ => rfl) i Iff.rfl (fun _ => rfl) (fun _ _ hb => hb) (fun _ _ _ => rfl) }
theorem ok_tail {σ τ : St} (e : τ.obj = σ.obj) (h : (∀ i T sz x, σ.obj i = some (.box T sz x) → ∀ k, x.refs k → σ.obj k ≠ none) ∧ σ.Ok3) :
    (∀ i T sz x, τ.obj i = some (.box T sz x) → ∀ k, x.refs k → τ.obj k ≠ none) ∧ τ.Ok3 := by
  unfold St.Ok3 at *; rw [e]; exact h
theorem Ok_set (ok : σ.Ok) {d : Nat} {o : Obj} (ho : ∀ T sz x, o = .box T sz x → ∀ k, x.refs k → σ.obj k ≠ none)
    (ho3 : ∀ T E sz xss hs, o = .rr T E sz xss hs → ∀ p ∈ hs, σ.obj p.2 ≠ none := by intros; contradiction) : (σ.set d o).Ok := by
  have hmono : ∀ k, σ.obj k ≠ none → (σ.set d o).obj k ≠ none := fun k hk => by rw [St.obj_set]; split <;> simp_all
  refine ⟨fun i k hk => hmono k (ok.1 i k hk), fun i T sz x hi k hk => hmono k ?_, fun i T E sz xss hs hi p hp => hmono _ ?_⟩
  · rw [St.obj_set] at hi
    split at hi
    · exact ho T sz x (by simpa using hi) k hk
    · exact ok.2.1 i T sz x hi k hk
  · rw [St.obj_set] at hi
    split at hi
    · exact ho3 T E sz xss hs (by simpa using hi) p hp
    · exact ok.2.2 i T E sz xss hs hi p hp
/-- A new object, in a new block. -/
theorem RelG.alloc (h : RelG B F w0 n σ a w g) {d : Nat} (hlt : d < 1000000) (hd : σ.obj d = none) (o : Obj) (cs : Array Value) (T : TypeId) (hv : Value) (hv1 : hv.oneCell' = true)
    (ho : (∃ sz x, o = .box T sz x ∧ cs.size = sz ∧ RepA w g x cs.toList ∧ ∀ k, x.refs k → σ.obj k ≠ none) ∨
      (∃ sz xs c, o = .row T sz xs ∧ hv = .slice (some ⟨w.heap.size, 0, none⟩) xs.length c ∧ cs.size = c * sz ∧ xs.length ≤ c ∧ c ≤ maxLen ∧ RepF w g.S xs (List.replicate xs.length sz) (cs.toList.take (xs.length * sz)))) :
    RelG B F w0 n (σ.set d o) a (w.alloc (.cells cs T)) { g with blk := upd g.blk d w.heap.size, hdr := upd g.hdr d hv, has := upd g.has d True } := by
  have hne : ∀ i, σ.obj i ≠ none → i ≠ d := fun i hi e => hi (e ▸ hd)
  have hold : ∀ k, k < w.heap.size → (w.alloc (.cells cs T)).heap[k]? = w.heap[k]? := fun k hk => heap_alloc_old w _ k hk
  have hnew : (w.alloc (.cells cs T)).heap[w.heap.size]? = some (.cells cs T) := heap_alloc_new w _
  refine { os := h.os, tape := h.tape, output := h.output, size := by simp; have := h.size; omega, old := fun k hk hB => ?_, n := h.n, nlt := h.nlt, glob := h.glob, defers := h.defers, sF := h.sF, sB := fun k hk => by have := h.sB k hk; simp; omega, own := ?_, dj := ?_, slots := ?_, objs := ?_, ok := ?_, hv := fun i => by by_cases he : i = d <;> simp [upd, he, hv1, h.hv], sub := ?_ }
  · exact (hold k (Nat.lt_of_lt_of_le hk h.size)).trans (h.old k hk hB)
  · intro i hi
    by_cases he : i = d
    · subst he
      simp only [upd_same]
      exact ⟨fun hs => absurd (h.sB _ hs) (by omega), .inl ⟨hlt, h.size⟩, by simp⟩
    · simp only [upd_ne _ _ _ he] at hi ⊢
      obtain ⟨k1, k2, k3⟩ := h.own i hi
      exact ⟨k1, k2, by simp; omega⟩
  · intro i j hij hi hj
    by_cases he : i = d
    · subst he
      have hj' : j ≠ i := fun e => hij e.symm
      simp only [upd_same, upd_ne _ _ _ hj'] at hi hj ⊢
      have := (h.own j hj).2.2
      omega
    · by_cases he' : j = d
      · subst he'
        simp only [upd_same, upd_ne _ _ _ he] at hi hj ⊢
        have := (h.own i hi).2.2
        omega
      · simp only [upd_ne _ _ _ he, upd_ne _ _ _ he'] at hi hj ⊢
        exact h.dj i j hij hi hj
  · exact h.slots' (g' := { g with blk := upd g.blk d w.heap.size, hdr := upd g.hdr d hv, has := upd g.has d True }) (fun _ hk => hk) (fun k _ hk => hold k hk) (fun i hi => upd_ne _ _ _ (hne i hi)) (fun i hi => upd_ne _ _ _ (hne i hi))
  · intro i
    rw [St.obj_set]
    by_cases he : i = d
    · subst he
      simp only [if_true]
      rcases ho with ⟨sz, x, rfl, h1, h2, h3⟩ | ⟨sz, xs, c, rfl, h1, h2, h3, h4, h5⟩
      · simp only [RepO, upd_same]
        exact ⟨trivial, cs, hnew, h1, RepA.frame (g := g) (g' := { g with blk := upd g.blk i w.heap.size, hdr := upd g.hdr i hv, has := upd g.has i True }) (fun _ hk => hk) (fun k _ hk => hold k hk) (fun k => σ.obj k ≠ none) (fun j hj => upd_ne _ _ _ (hne j hj)) (fun j hj => upd_ne _ _ _ (hne j hj)) x _ h3 h2⟩
      · simp only [RepO, upd_same]
        exact .inr ⟨trivial, c, cs, h1, hnew, h2, h3, h4, RepF.frame (fun _ hk => hk) (fun k _ hk => hold k hk) _ _ _ h5⟩
    · simp only [if_neg he]
      refine RepO.frame h (g' := { g with blk := upd g.blk d w.heap.size, hdr := upd g.hdr d hv, has := upd g.has d True }) (fun _ hk => hk) (fun k _ hk => hold k hk) (fun i hi => upd_ne _ _ _ (hne i hi)) (fun i hi => upd_ne _ _ _ (hne i hi)) i (by simp only [upd_ne _ _ _ he]) (fun hi => hold _ (h.own i hi).2.2) (fun _ _ hb => hb) (fun j b hb => hold b (h.sub i j b hb).2.2.1)
  · refine Ok_set h.ok (fun T' sz' x' e k hk => ?_) (fun T' E' sz' xss' hs' e => by rcases ho with ⟨sz, x, rfl, _⟩ | ⟨sz, xs, c, rfl, _⟩ <;> cases e)
    rcases ho with ⟨sz, x, rfl, _, _, h3⟩ | ⟨sz, xs, c, rfl, _⟩
    · cases e; exact h3 k hk
    · cases e
  · intro i j b hb
    obtain ⟨k1, k2, k3, k4, k5⟩ := h.sub i j b hb
    refine ⟨k1, k2, by simp; omega, fun k hk => ?_, k5⟩
    by_cases he : k = d
    · subst he; simp only [upd_same]; omega
    · simp only [upd_ne _ _ _ he] at hk ⊢; exact k4 k hk
end
end Go.Sim
/- What is proved: as the text before, for an object without memory, an object written anew in place, and one that another one takes the place of. -/
namespace Go.Sim
open Go.RowKit
section
variable {B : Nat → Nat → Prop} {F : Cx} {w0 w : World} {n : Nat} {σ : St} {a : Act} {g : Gh}
theorem hv_upd (h : RelG B F w0 n σ a w g) {d : Nat} {v : Value} (hv : v.oneCell' = true) (i : Nat) : (upd g.hdr d v i).oneCell' = true := by
  unfold upd; split
  · exact hv
  · exact h.hv i
/-- An own slice that is nil. -/
theorem RelG.nilrow (h : RelG B F w0 n σ a w g) {d : Nat} (hd : σ.obj d = none) (E : TypeId) (sz : Nat) :
    RelG B F w0 n (σ.set d (.row E sz [])) a w { g with hdr := upd g.hdr d (.slice none 0 0), has := upd g.has d False } := by
  have hne : ∀ i, σ.obj i ≠ none → i ≠ d := fun i hi e => hi (e ▸ hd)
  refine { os := h.os, tape := h.tape, output := h.output, size := h.size, old := h.old, n := h.n, nlt := h.nlt, glob := h.glob, defers := h.defers, sF := h.sF, sB := h.sB, own := ?_, dj := ?_, slots := ?_, objs := ?_, ok := ?_, hv := hv_upd h rfl, sub := ?_ }
  · intro i hi
    by_cases he : i = d
    · subst he; simp [upd_same] at hi
    · simp only [upd_ne _ _ _ he] at hi; exact h.own i hi
  · intro i j hij hi hj
    by_cases he : i = d
    · subst he; simp [upd_same] at hi
    · by_cases he' : j = d
      · subst he'; simp [upd_same] at hj
      · simp only [upd_ne _ _ _ he, upd_ne _ _ _ he'] at hi hj; exact h.dj i j hij hi hj
  · exact h.slots' (g' := { g with hdr := upd g.hdr d (.slice none 0 0), has := upd g.has d False }) (fun _ hk => hk) (fun k _ hk => rfl) (fun i hi => rfl) (fun i hi => upd_ne _ _ _ (hne i hi))
  · intro i
    rw [St.obj_set]
    by_cases he : i = d
    · subst he
      simp only [if_true, RepO, upd_same]
      exact .inl ⟨fun h => h, by simp⟩
    · simp only [if_neg he]
      exact RepO.frame h (g' := { g with hdr := upd g.hdr d (.slice none 0 0), has := upd g.has d False }) (fun _ hk => hk) (fun k _ hk => rfl) (fun i hi => rfl) (fun i hi => upd_ne _ _ _ (hne i hi)) i (by simp only [upd_ne _ _ _ he]) (fun hi => rfl) (fun _ _ hb => hb) (fun _ _ _ => rfl)
  · exact Ok_set h.ok (fun _ _ _ e => by cases e)
  · intro i j b hb
    obtain ⟨k1, k2, k3, k4, k5⟩ := h.sub i j b hb
    refine ⟨k1, k2, k3, fun k hk => ?_, k5⟩
    by_cases he : k = d
    · subst he; simp [upd_same] at hk
    · simp only [upd_ne _ _ _ he] at hk; exact k4 k hk
/-- An object is written in its place. -/
theorem RelG.rewrite (h : RelG B F w0 n σ a w g) {id : Nat} (hid : g.has id) (hobj : σ.obj id ≠ none) (cs : Array Value) (o : Obj)
    (ho : RepO (w.setRow (g.blk id) cs) g id (some o)) (hr : ∀ T sz x, o = .box T sz x → ∀ k, x.refs k → σ.obj k ≠ none)
    (hr3 : ∀ T E sz xss hs, o = .rr T E sz xss hs → ∀ p ∈ hs, σ.obj p.2 ≠ none := by intros; contradiction) :
    RelG B F w0 n (σ.set id o) a (w.setRow (g.blk id) cs) g := by
  obtain ⟨k1, k2, k3⟩ := h.own id hid
  have hS : ∀ k, g.S k → k < w.heap.size → (w.setRow (g.blk id) cs).heap[k]? = w.heap[k]? := fun k hk _ => setRow_other w _ _ _ (fun e => k1 (e ▸ hk))
  refine { os := h.os, tape := h.tape, output := h.output, size := by simpa using h.size, old := fun k hk hB => ?_, n := h.n, nlt := h.nlt, glob := h.glob, defers := h.defers, sF := h.sF, sB := by simpa using h.sB, own := by simpa using h.own, dj := h.dj, slots := ?_, objs := ?_, ok := Ok_set h.ok hr hr3, hv := h.hv, sub := ?_ }
  · rw [setRow_other]
    · exact h.old k hk hB
    · intro e
      obtain ⟨j, hj⟩ := Mine.old k2 (e ▸ hk)
      exact hB j (e ▸ hj)
  · exact h.slots' (g' := g) (fun _ hk => hk) hS (fun _ _ => rfl) (fun _ _ => rfl)
  · intro i
    rw [St.obj_set]
    by_cases he : i = id
    · subst he; simpa using ho
    · simp only [if_neg he]
      exact RepO.frame h (g' := g) (fun _ hk => hk) hS (fun _ _ => rfl) (fun _ _ => rfl) i Iff.rfl (fun hi => setRow_other w _ _ _ (fun e => h.dj i id he hi hid e)) (fun _ _ hb => hb) (fun j b hb => setRow_other w _ _ _ (fun e => (h.sub i j b hb).2.2.2.1 id hid e.symm))
  · have hsz : (w.setRow (g.blk id) cs).heap.size = w.heap.size := by simp
    intro i j b hb
    rw [hsz]; exact h.sub i j b hb
/-- An own slice is done with; another one stands for it. -/
theorem RelG.reown (h : RelG B F w0 n σ a w g) {id d : Nat} (hlt : d < 1000000) (hlid : id < 1000000) (hobj : σ.obj id ≠ none) (hd : σ.obj d = none) {w' : World} (h1 : w'.os = w.os) (h2 : w'.tape = w.tape) (h3 : w'.output = w.output)
    (h4 : w.heap.size ≤ w'.heap.size) (h5 : ∀ k, k < w.heap.size → (g.has id → k ≠ g.blk id) → w'.heap[k]? = w.heap[k]?) (b : Nat) (hv : Value) (hv1 : hv.oneCell' = true) (hs : Prop)
    (hb : hs → (w.heap.size ≤ b ∧ b < w'.heap.size) ∨ (g.has id ∧ b = g.blk id)) (E : TypeId) (sz : Nat) (xs : List DV)
    (ho : (¬ hs ∧ xs = [] ∧ hv = .slice none 0 0) ∨
      (hs ∧ ∃ c cur, hv = .slice (some ⟨b, 0, none⟩) xs.length c ∧ w'.heap[b]? = some (.cells cur E (0, 0)) ∧ cur.size = c * sz ∧
        xs.length ≤ c ∧ c ≤ maxLen ∧ RepF w g.S xs (List.replicate xs.length sz) (cur.toList.take (xs.length * sz)))) :
    RelG B F w0 n ((σ.set id .gone).set d (.row E sz xs)) a w' { g with blk := upd g.blk d b, hdr := upd g.hdr d hv, has := upd (upd g.has id False) d hs } := by
  have hne : ∀ i, σ.obj i ≠ none → i ≠ d := fun i hi e => hi (e ▸ hd)
  have hid : id ≠ d := hne id hobj
  have hS : ∀ k, g.S k → k < w.heap.size → w'.heap[k]? = w.heap[k]? := fun k hk hlt => h5 k hlt (fun hi e => (h.own id hi).1 (e ▸ hk))
  have hobjs : ∀ i, ((σ.set id .gone).set d (.row E sz xs)).obj i = if i = d then some (.row E sz xs) else if i = id then some .gone else σ.obj i := fun i => by
    rw [St.obj_set]; split
    · rfl
    · rw [St.obj_set]
  refine { os := h1.trans h.os, tape := h2.trans h.tape, output := h3.trans h.output, size := Nat.le_trans h.size h4, old := fun k hk hB => ?_, n := h.n, nlt := h.nlt, glob := h.glob, defers := h.defers, sF := h.sF, sB := fun k hk => Nat.lt_of_lt_of_le (h.sB k hk) h4, own := ?_, dj := ?_, slots := ?_, objs := ?_, ok := ?_, hv := fun i => by by_cases he : i = d <;> simp [upd, he, hv1, h.hv], sub := ?_ }
  · rw [h5 k (Nat.lt_of_lt_of_le hk h.size)]
    · exact h.old k hk hB
    · intro hi e
      obtain ⟨j, hj⟩ := Mine.old (h.own id hi).2.1 (e ▸ hk)
      exact hB j (e ▸ hj)
  · intro i hi
    by_cases he : i = d
    · subst he
      simp only [upd_same] at hi ⊢
      rcases hb hi with ⟨k1, k2⟩ | ⟨k1, rfl⟩
      · exact ⟨fun hs' => absurd (h.sB _ hs') (by omega), .inl ⟨hlt, Nat.le_trans h.size k1⟩, k2⟩
      · obtain ⟨m1, m2, m3⟩ := h.own id k1
        exact ⟨m1, .inl ⟨hlt, m2.new hlid⟩, Nat.lt_of_lt_of_le m3 h4⟩
    · simp only [upd_ne _ _ _ he] at hi ⊢
      by_cases he2 : i = id
      · subst he2; simp [upd_same] at hi
      · simp only [upd_ne _ _ _ he2] at hi
        obtain ⟨m1, m2, m3⟩ := h.own i hi
        exact ⟨m1, m2, Nat.lt_of_lt_of_le m3 h4⟩
  · have key : ∀ j, j ≠ d → upd (upd g.has id False) d hs j → j ≠ id ∧ g.has j := fun j hj hh => by
      simp only [upd_ne _ _ _ hj] at hh
      by_cases he2 : j = id
      · subst he2; simp [upd_same] at hh
      · simp only [upd_ne _ _ _ he2] at hh; exact ⟨he2, hh⟩
    have key2 : ∀ j, j ≠ d → hs → upd (upd g.has id False) d hs j → g.blk j ≠ b := fun j hj hs' hh e => by
      obtain ⟨m1, m2⟩ := key j hj hh
      rcases hb hs' with ⟨k1, k2⟩ | ⟨k1, rfl⟩
      · have := (h.own j m2).2.2; omega
      · exact h.dj j id m1 m2 k1 e
    intro i j hij hi hj
    by_cases he : i = d
    · subst he
      have hj' : j ≠ i := fun e => hij e.symm
      have := key2 j hj' (by simpa [upd_same] using hi) hj
      simp only [upd_same, upd_ne _ _ _ hj']
      exact fun e => this e.symm
    · by_cases he' : j = d
      · subst he'
        have := key2 i he (by simpa [upd_same] using hj) hi
        simpa only [upd_same, upd_ne _ _ _ he]
      · simp only [upd_ne _ _ _ he, upd_ne _ _ _ he']
        exact h.dj i j hij (key i he hi).2 (key j he' hj).2
  · exact h.slots' (g' := { g with blk := upd g.blk d b, hdr := upd g.hdr d hv, has := upd (upd g.has id False) d hs }) (fun _ hk => hk) hS (fun i hi => upd_ne _ _ _ (hne i hi)) (fun i hi => upd_ne _ _ _ (hne i hi))
  · intro i
    rw [hobjs]
    by_cases he : i = d
    · subst he
      simp only [if_true, RepO, upd_same]
      rcases ho with ⟨m1, m2, m3⟩ | ⟨m1, c, cur, m2, m3, m4, m5, m6, m7⟩
      · exact .inl ⟨m1, m2, m3⟩
      · exact .inr ⟨m1, c, cur, m2, m3, m4, m5, m6, RepF.frame (fun _ hk => hk) hS _ _ _ m7⟩
    · simp only [if_neg he]
      by_cases he2 : i = id
      · subst he2
        simp only [if_true, RepO, upd_ne _ _ _ he, upd_same, not_false_eq_true]
      · simp only [if_neg he2]
        exact RepO.frame h (g' := { g with blk := upd g.blk d b, hdr := upd g.hdr d hv, has := upd (upd g.has id False) d hs }) (fun _ hk => hk) hS (fun i hi => upd_ne _ _ _ (hne i hi)) (fun i hi => upd_ne _ _ _ (hne i hi)) i (by simp only [upd_ne _ _ _ he, upd_ne _ _ _ he2])
          (fun hi => h5 _ (h.own i hi).2.2 (fun hk e => h.dj i id he2 hi hk e)) (fun _ _ hb => hb) (fun j b' hb' => h5 _ (h.sub i j b' hb').2.2.1 (fun hk e => (h.sub i j b' hb').2.2.2.1 id hk e.symm))
  · exact Ok_set (Ok_set h.ok (fun _ _ _ e => by cases e)) (fun _ _ _ e => by cases e)
  · intro i j b' hb'
    obtain ⟨k1, k2, k3, k4, k5⟩ := h.sub i j b' hb'
    refine ⟨k1, k2, Nat.lt_of_lt_of_le k3 h4, fun k hk => ?_, k5⟩
    by_cases he : k = d
    · subst he
      simp only [upd_same] at hk ⊢
      rcases hb hk with ⟨m1, _⟩ | ⟨m1, rfl⟩
      · omega
      · exact k4 id m1
    · simp only [upd_ne _ _ _ he] at hk ⊢
      by_cases he2 : k = id
      · subst he2; simp [upd_same] at hk
      · simp only [upd_ne _ _ _ he2] at hk; exact k4 k hk
theorem RelG.subFreeze (h : RelG B F w0 n σ a w g) (id : Nat) : SubOk w0 w { g with S := fun k => g.S k ∨ (g.has id ∧ k = g.blk id), has := upd g.has id False } := by
  intro i j b hb
  obtain ⟨k1, k2, k3, k4, k5⟩ := h.sub i j b hb
  refine ⟨fun hs => hs.elim k1 (fun ⟨m1, m2⟩ => k4 id m1 m2.symm), k2, k3, fun k hk => ?_, k5⟩
  by_cases he : k = id
  · subst he; simp [upd_same] at hk
  · simp only [upd_ne _ _ _ he] at hk; exact k4 k hk
/-- An own slice is shared from now on: it is no object any more, and may be read as closed data. -/
theorem RelG.freeze (h : RelG B F w0 n σ a w g) {id : Nat} (hid : id < 1000000) {E : TypeId} {sz : Nat} {xs : List DV} (hobj : σ.obj id = some (.row E sz xs)) :
    RelG B F w0 n (σ.set id .gone) a w { g with S := fun k => g.S k ∨ (g.has id ∧ k = g.blk id), has := upd g.has id False } ∧
      RepD w (fun k => g.S k ∨ (g.has id ∧ k = g.blk id)) (.sl E sz xs) [g.hdr id] := by
  have hS : ∀ k, g.S k → g.S k ∨ (g.has id ∧ k = g.blk id) := fun _ hk => .inl hk
  constructor
  · refine { os := h.os, tape := h.tape, output := h.output, size := h.size, old := h.old, n := h.n, nlt := h.nlt, glob := h.glob, defers := h.defers, sF := ?_, sB := ?_, own := ?_, dj := ?_, slots := ?_, objs := ?_, ok := Ok_set h.ok (fun _ _ _ e => by cases e), hv := h.hv, sub := h.subFreeze id }
    · rintro k (hk | ⟨hk, rfl⟩)
      · exact h.sF k hk
      · exact .inr ((h.own id hk).2.1.new hid)
    · rintro k (hk | ⟨hk, rfl⟩)
      · exact h.sB k hk
      · exact (h.own id hk).2.2
    · intro i hi
      by_cases he : i = id
      · subst he; simp [upd_same] at hi
      · simp only [upd_ne _ _ _ he] at hi
        obtain ⟨m1, m2, m3⟩ := h.own i hi
        exact ⟨fun hs => hs.elim m1 (fun ⟨k1, k2⟩ => h.dj i id he hi k1 k2), m2, m3⟩
    · intro i j hij hi hj
      by_cases he : i = id
      · subst he; simp [upd_same] at hi
      · by_cases he' : j = id
        · subst he'; simp [upd_same] at hj
        · simp only [upd_ne _ _ _ he, upd_ne _ _ _ he'] at hi hj; exact h.dj i j hij hi hj
    · exact h.slots' (g' := { g with S := fun k => g.S k ∨ (g.has id ∧ k = g.blk id), has := upd g.has id False }) hS (fun k _ _ => rfl) (fun _ _ => rfl) (fun _ _ => rfl)
    · intro i
      rw [St.obj_set]
      by_cases he : i = id
      · subst he; simp [RepO, upd_same]
      · simp only [if_neg he]
        exact RepO.frame h (g' := { g with S := fun k => g.S k ∨ (g.has id ∧ k = g.blk id), has := upd g.has id False }) hS (fun k _ _ => rfl) (fun _ _ => rfl) (fun _ _ => rfl) i (by simp only [upd_ne _ _ _ he]) (fun _ => rfl) (fun _ _ hb => hb) (fun _ _ _ => rfl)
  · have ho := h.objs id
    rw [hobj] at ho
    simp only [RepO] at ho
    simp only [RepD]
    rcases ho with ⟨m1, rfl, m3⟩ | ⟨m1, c, cur, m2, m3, m4, m5, m6, m7⟩
    · exact ⟨none, 0, [], by simp [m3], by simp, by simp [RepF], .inl rfl⟩
    · refine ⟨_, c, _, by rw [m2], m5, RepF.frame hS (fun k _ _ => rfl) _ _ _ m7, .inr ⟨g.blk id, 0, rfl, .inr ⟨m1, rfl⟩, fun j u hj => ?_⟩⟩
      rw [cell_of_row w _ _ cur E (0, 0) m3]
      rw [List.getElem?_take] at hj
      split at hj
      · simpa using hj
      · cases hj
end
end Go.Sim
/- What is proved: operations on plain values (numbers, truth values, strings) yield what the plain functions of this text say. -/
namespace Go.Sim
open Go.RowKit
def rbin (op : BinOp) (x y : Value) : Option Value :=
  match x, y with
  | .int k a, .int k' b =>
    match op with
    | .shl => if b < 0 then none else some (.int k (k.wrap (a * 2 ^ (min b.toNat k.bits))))
    | .shr => if b < 0 then none else some (.int k (a.fdiv (2 ^ (min b.toNat k.bits))))
    | .quo => if k = k' then if b = 0 then none else some (.int k (k.wrap (a.tdiv b))) else none
    | .rem => if k = k' then if b = 0 then none else some (.int k (a.tmod b)) else none
    | .add => if k = k' then some (.int k (k.wrap (a + b))) else none
    | .sub => if k = k' then some (.int k (k.wrap (a - b))) else none
    | .mul => if k = k' then some (.int k (k.wrap (a * b))) else none
    | .and => if k = k' then some (.int k (bits .and k a b)) else none
    | .or => if k = k' then some (.int k (bits .or k a b)) else none
    | .xor => if k = k' then some (.int k (bits .xor k a b)) else none
    | .andNot => if k = k' then some (.int k (bits .andNot k a b)) else none
    | .eql => if k = k' then some (.bool (a == b)) else none
    | .neq => if k = k' then some (.bool (a != b)) else none
    | .lss => if k = k' then some (.bool (decide (a < b))) else none
    | .leq => if k = k' then some (.bool (decide (a ≤ b))) else none
    | .gtr => if k = k' then some (.bool (decide (a > b))) else none
    | .geq => if k = k' then some (.bool (decide (a ≥ b))) else none
  | .float k a, .float k' b =>
    match op with
    | .eql => if k = k' then some (.bool (k.format.order a b == some .eq)) else none
    | .neq => if k = k' then some (.bool (k.format.order a b != some .eq)) else none
    | .lss => if k = k' then some (.bool (k.format.order a b == some .lt)) else none
    | .leq => if k = k' then some (.bool (k.format.order a b == some .lt || k.format.order a b == some .eq)) else none
    | .gtr => if k = k' then some (.bool (k.format.order a b == some .gt)) else none
    | .geq => if k = k' then some (.bool (k.format.order a b == some .gt || k.format.order a b == some .eq)) else none
    | _ => none
  | .string a, .string b =>
    match op with
    | .eql => some (.bool (a.toList == b.toList))
    | .neq => some (.bool !(a.toList == b.toList))
    | .lss => some (.bool (Op.bytesLess a.toList b.toList))
    | .leq => some (.bool (Op.bytesLess a.toList b.toList || a.toList == b.toList))
    | .gtr => some (.bool !(Op.bytesLess a.toList b.toList || a.toList == b.toList))
    | .geq => some (.bool !(Op.bytesLess a.toList b.toList))
    | _ => none
  | _, _ => none
theorem eqGuard_raw {op : BinOp} {t : TypeId} {xo yo : Operand} {x y u : Value} (h : rbin op x y = some u) : eqGuard op t xo yo x y = pure () := by
  cases x <;> cases y <;> first
    | simp only [eqGuard_at_int, eqGuard_at_float, eqGuard_at_string]
    | simp [rbin] at h
theorem run_rbin {P : Program} {op : BinOp} {t : TypeId} {x y u : Value} (h : rbin op x y = some u) (w : World) : (binOp op t x y).run P w = .ok u w := by
  cases x <;> cases y <;> first
    | (simp [rbin] at h; done)
    | (rename_i k a k' b
       cases op <;> simp only [rbin] at h <;> first
         | (cases h; done)
         | (split at h <;> first
             | (cases h; done)
             | (rename_i hb; simp only [Option.some.injEq] at h; subst h; simp [binOp, Op.shift, hb]; done)
             | (rename_i hk; subst hk; simp only [Option.some.injEq] at h; subst h; simp [binOp, Op.intArith, Op.intCmp, Op.floatCmp, Op.intBits, bits]; done)
             | (rename_i hk; subst hk; split at h
                · cases h
                · rename_i hb; simp only [Option.some.injEq] at h; subst h; simp [binOp, Op.intDiv, hb])))
    | (rename_i a b
       cases op <;> simp only [rbin, Option.some.injEq, reduceCtorEq] at h <;> subst h <;> simp [binOp, Op.stringOp])
def runary (op : UnOp) (x : Value) : Option Value :=
  match op, x with
  | .neg, .int k n => some (.int k (k.wrap (0 - n)))
  | .not, .bool b => some (.bool !b)
  | .neg, .float k b => some (.float k (Op.negFloat k b))
  | _, _ => none
theorem run_runary {P : Program} {op : UnOp} {x u : Value} (h : runary op x = some u) (w : World) : (Op.unary op x).run P w = .ok u w := by
  cases op <;> cases x <;> simp only [runary, Option.some.injEq, reduceCtorEq] at h <;> subst h <;> simp [Op.unary, Op.intArith]
def rconv (d : TyD) (x : Value) : Option Value :=
  match d, x with
  | .int k, .int _ n => some (.int k (k.wrap n))
  | .flt k, .int _ n => some (.float k (k.nearest n))
  | .str, .string s => some (.string s)
  | _, _ => none
theorem run_rconv {P : Program} {src dst : TypeId} {ds dd : TypeDesc} {d : TyD} {x u : Value} (hs : P.underlying src = some ds) (hd : P.underlying dst = some dd)
    (hok : d.ok dd) (h : rconv d x = some u) (w : World) : (convert src dst x).run P w = .ok u w := by
  cases d <;> cases x <;> simp only [rconv, Option.some.injEq, reduceCtorEq] at h <;> cases dd <;> simp only [TyD.ok] at hok <;>
    (try subst hok) <;> subst h <;> simp [convert, run_underlying hs, run_underlying hd, Conv.intToInt, Conv.intToFloat]
def AV.raw : AV → Option Value
  | .dat (.v x) => some x
  | _ => none
theorem raw_eval {w : World} {g : Gh} {x : AV} {u v : Value} (h : RepS w g x u) (hr : x.raw = some v) : u = v := by
  cases x with
  | dat x => cases x <;> simp only [AV.raw, Option.some.injEq, reduceCtorEq] at hr; subst hr; simp only [RepS, RepV, RepD, List.cons.injEq, and_true] at h; exact h.1
  | _ => simp [AV.raw] at hr
end Go.Sim
/- What is proved: loads and stores through an address of the reader's own, and through one of shared memory. -/
namespace Go.Sim
open Go.RowKit
def AV.agg : AV → Bool
  | .dat x => x.agg
  | .st .. => true
  | _ => false
/-- May it lie in memory, and in a slot? -/
def AV.lies : AV → Bool
  | .dat (.tup _) => false
  | .dead => false
  | .vw .. => false
  | _ => true
theorem RepS.cells {w : World} {g : Gh} (hv : ∀ i, (g.hdr i).oneCell' = true) {x : AV} {u : Value} (h : RepS w g x u) (hl : x.lies = true) : RepA w g x u.cells.toList ∧ (x.agg = true → ∃ cs, u = .agg cs) ∧ (x.agg = false → u.cells = #[u]) := by
  cases x with
  | dat x =>
    have ht : ∀ xs, x ≠ .tup xs := fun xs e => by subst e; simp [AV.lies] at hl
    have hu := RepV.u h ht
    refine ⟨RepU.cells hu, ?_, ?_⟩
    · intro ha
      rcases hu with ⟨_, cs, rfl, _⟩ | ⟨hb, _⟩
      · exact ⟨_, rfl⟩
      · simp only [AV.agg] at ha; rw [ha] at hb; cases hb
    · intro ha
      rcases hu with ⟨hb, _⟩ | ⟨_, hd⟩
      · simp only [AV.agg] at ha; rw [ha] at hb; cases hb
      · have := RepD.one _ _ hd u (by simp)
        cases u <;> simp_all [Value.oneCell', Value.cells]
  | st ns xs => obtain ⟨cs, rfl, hd⟩ := h; exact ⟨by simpa [Value.cells] using hd, fun _ => ⟨_, rfl⟩, fun ha => by simp [AV.agg] at ha⟩
  | oref id =>
    simp only [RepS] at h; subst h
    have h1 := hv id
    have : (g.hdr id).cells = #[g.hdr id] := by cases hh : g.hdr id <;> simp_all [Value.oneCell', Value.cells]
    simp [this, RepA, AV.agg]
  | pt id p off => simp only [RepS] at h; subst h; simp [Value.cells, RepA, AV.agg]
  | fb f fs ks => simp only [RepS] at h; subst h; simp [fbV, Value.cells, RepA, AV.agg]
  | sp x => simp only [RepS] at h; have h' := h; simp only [RepA] at h; obtain ⟨b, o, ds, e, _⟩ := h; simp at e; subst e; exact ⟨by simpa [Value.cells] using h', fun ha => by simp [AV.agg] at ha, fun _ => rfl⟩
  | dead => simp [AV.lies] at hl
  | vw id l h sz => simp [AV.lies] at hl
theorem RepA.toS {w : World} {g : Gh} {x : AV} {cs : List Value} (h : RepA w g x cs) : x.agg = true ∧ RepS w g x (.agg cs.toArray) ∨ x.agg = false ∧ ∃ u, cs = [u] ∧ RepS w g x u := by
  cases x with
  | dat x =>
    cases x with
    | v x => simp only [RepA, RepD] at h; obtain ⟨rfl, h⟩ := h; exact .inr ⟨rfl, x, rfl, by simp [RepS, RepV, RepD, h]⟩
    | st ns xs => exact .inl ⟨rfl, ⟨cs, rfl, h⟩⟩
    | ar ns xs => exact .inl ⟨rfl, ⟨cs, rfl, h⟩⟩
    | sl E sz xs => have h' := h; simp only [RepA, RepD] at h; obtain ⟨a, c, row, rfl, _⟩ := h; exact .inr ⟨rfl, _, rfl, h'⟩
    | tup xs => simp only [RepA, RepD] at h
    | pd x => have h' := h; simp only [RepA, RepD] at h; obtain ⟨b, o, ds, rfl, _⟩ := h; exact .inr ⟨rfl, _, rfl, h'⟩
    | fn f xs => have h' := h; simp only [RepA, RepD] at h; obtain ⟨vs, rfl, _⟩ := h; exact .inr ⟨rfl, _, rfl, h'⟩
    | any p => have h' := h; simp only [RepA, RepD] at h; obtain ⟨v, rfl, h1, _⟩ := h; exact .inr ⟨rfl, _, rfl, h'⟩
    | mp ks xs => have h' := h; simp only [RepA, RepD] at h; obtain ⟨r, es, clock, rfl, _⟩ := h; exact .inr ⟨rfl, _, rfl, h'⟩
  | st ns xs => exact .inl ⟨rfl, ⟨cs, rfl, h⟩⟩
  | oref id => exact .inr ⟨rfl, _, h, rfl⟩
  | pt id p off => exact .inr ⟨rfl, _, h, rfl⟩
  | fb f fs ks => exact .inr ⟨rfl, _, h, rfl⟩
  | vw id l h sz => exact .inr ⟨rfl, _, h, rfl⟩
  | sp x => have h' := h; simp only [RepA] at h; obtain ⟨b, o, ds, rfl, _⟩ := h; exact .inr ⟨rfl, _, rfl, h'⟩
  | dead => simp only [RepA] at h; obtain ⟨u, rfl, _⟩ := h; exact .inr ⟨rfl, u, rfl, trivial⟩
theorem run_isAgg {P : Program} {t : TypeId} {te : TE} (h : EntryOk P t te) (w : World) : (isAgg t).run P w = .ok te.d.agg w := by
  obtain ⟨i, d, z, h1, h2, h3, _⟩ := h
  unfold isAgg
  rw [Sem.run_bind, run_underlying h2]
  generalize te.d = td at *
  cases td <;> cases d <;> simp only [TyD.ok] at h3 <;> first | exact h3.elim | rfl
theorem run_sizeOf {P : Program} {t : TypeId} {te : TE} (h : EntryOk P t te) (w : World) : (sizeOf t).run P w = .ok te.size w := by
  obtain ⟨i, d, z, h1, h2, h3, h4, _⟩ := h
  simp [sizeOf, typeInfo, h1, h4]
theorem run_zero {P : Program} {t : TypeId} {te : TE} (h : EntryOk P t te) (w : World) (S : Nat → Prop) : ∃ z, (zeroValue t).run P w = .ok z w ∧ RepU w S te.zero z ∧ z.cells.size = te.size ∧ te.zero.len = te.size := by
  obtain ⟨i, d, z, h1, h2, h3, h4, h5, h6, h7, h8, h9, h10⟩ := h
  refine ⟨z, by simp [zeroValue, typeInfo, h1, h6], RepU.of_flat h7 h8 h9, ?_, h10⟩
  have := RepD.len (RepD.of_flat (w := w) (S := S) _ _ h7)
  simpa [h10] using this
theorem addr_add (b o j : Nat) : (⟨b, o, none⟩ : Addr).add j = ⟨b, o + j, none⟩ := by unfold Addr.add; split <;> simp_all
/-- A load of what lies at an address. -/
theorem run_load_at {P : Program} {t : TypeId} {te : TE} (h : EntryOk P t te) {w : World} {g : Gh} {y : AV} {cs : List Value} {b o : Nat} (hy : RepA w g y cs)
    (hc : ∀ j u, cs[j]? = some u → w.cell? ⟨b, o + j, none⟩ = some u) (ha : te.d.agg = y.agg) (hs : y.agg = true → te.size = y.len) :
    ∃ u, (Instr.loadAt t (.pointer (some ⟨b, o, none⟩))).run P w = .ok u w ∧ RepS w g y u := by
  have hag := run_isAgg h w
  have hsz := run_sizeOf h w
  rcases RepA.toS hy with ⟨h1, h2⟩ | ⟨h1, u, rfl, h2⟩
  · refine ⟨_, ?_, h2⟩
    have hl : cs.length = te.size := by rw [hs h1]; exact RepA.len hy
    have hld := run_loadCells_list (P := P) w ⟨b, o, none⟩ cs (fun j v hv => by rw [addr_add]; exact hc j v hv)
    rw [hl] at hld
    simp [Instr.loadAt, Instr.sureAddr, loadVar, hag, ha, h1, hsz, hld]
  · refine ⟨u, ?_, h2⟩
    have := hc 0 u rfl
    simp only [Nat.add_zero] at this
    simp [Instr.loadAt, Instr.sureAddr, loadVar, hag, ha, h1, this]
/-- A store into an own block. -/
theorem run_store_at {P : Program} {t : TypeId} {te : TE} (h : EntryOk P t te) {w : World} {b o : Nat} {T : TypeId} {cur : Array Value} {u : Value} {cs : List Value}
    (hcur : w.heap[b]? = some (.cells cur T (0, 0))) (hu : u.cells.toList = cs) (hl : cs.length = te.size) (ho : o + cs.length ≤ cur.size) (h1 : ∀ v ∈ cs, v.oneCell' = true) :
    (Instr.storeAt t (.pointer (some ⟨b, o, none⟩)) u).run P w = .ok () (w.setRow b (cur.toList.take o ++ cs ++ cur.toList.drop (o + cs.length)).toArray) := by
  have hsz := run_sizeOf h w
  have hst := run_storeCells_at P b o T cs 0 cur w hcur (by simpa using ho) h1
  have hlen : u.cells.size = te.size := by rw [← hl, ← hu]; simp
  simp only [Nat.add_zero] at hst
  simp [Instr.storeAt, Instr.sureAddr, storeVar, hsz, hlen, hu, hst]
end Go.Sim
/- What is proved: a region of operations may be gone through in the order of its text, whatever order is drawn, if a test on its operations says so. -/
namespace Go.Sim
open Go.RowKit
def ev (σ : St) : Operand → AV
  | .tmp t => σ.slot t
  | .const v => if v.oneCell' then .dat (.v v) else .dead
  | .global g => .dat (.v (.pointer (some ⟨g, 0, none⟩)))
  | .func f => .dat (.v (.func (.func f) #[] #[]))
structure Eff where
  sv : AV
  objs : List (Nat × Obj)
def setAll (σ : St) : List (Nat × Obj) → St
  | [] => σ
  | p :: ps => setAll (σ.set p.1 p.2) ps
def putO (σ : St) (d : Option Nat) (x : AV) : St := match d with | some d => σ.put d x | none => σ
def Eff.app (e : Eff) (d : Option Nat) (σ : St) : St := putO (setAll σ e.objs) d e.sv
/-- May the operation look at objects? -/
def looks (o : Oper) : Bool :=
  match o.op with
  | .move _ | .assign _ | .pick .. | .alloc _ | .box .. | .build .. | .buildSlice .. | .binOp .. | .unOp .. | .makeInterface .. | .makeSlice ..
  | .fieldAddr .. | .field .. | .extract .. | .nilCheck _ => false
  | .convert a b _ => Nat.beq a b
  | _ => true
/-- What a world is to the one where a function began. -/
structure WOk (B : Nat → Nat → Prop) (w0 w : World) : Prop where
  os : w.os = w0.os
  tape : w.tape = w0.tape
  output : w.output = w0.output
  size : w0.heap.size ≤ w.heap.size
  old : ∀ k, k < w0.heap.size → (∀ i, ¬ B i k) → w.heap[k]? = w0.heap[k]?
theorem RelG.wok {B : Nat → Nat → Prop} {F : Cx} {w0 w : World} {n : Nat} {σ : St} {a : Act} {g : Gh} (h : RelG B F w0 n σ a w g) : WOk B w0 w := ⟨h.os, h.tape, h.output, h.size, h.old⟩
/-- A panic of one value. -/
abbrev pan (v : Value) : List PanicEntry := [{ v := v, recovered := false }]
def OpOk (P : Program) (N : Value → Prop) (o : Oper) (σ : St) (e : Eff) : Prop :=
  ∀ (B : Nat → Nat → Prop) (F : Cx) (w0 : World) (n : Nat) (a : Act) (w : World), (∀ d, o.dst = some d → d < n) → Rel B F w0 n σ a w →
    ∀ Q : Exit → Act → World → Prop, (∀ v a' w', N v → WOk B w0 w' → a'.defers = F.D → Q (.panic (pan v)) a' w') → o.wp P a w (fun a' w' => Rel B F w0 n (e.app o.dst σ) a' w') Q
/-- Two states that are one to an operation. -/
def Agree (o : Oper) (σ σ' : St) : Prop :=
  (∀ x ∈ o.op.operands, ev σ' x = ev σ x) ∧ (∀ d, o.dst = some d → σ.obj d = none → σ'.obj d = none) ∧
    (looks o = true → ∀ x ∈ o.op.operands, ∀ k, (ev σ x).refs k → σ'.obj k = σ.obj k)
/-- The operands that name what the operation may write. -/
def wr (o : Oper) : List Operand :=
  match o.op with
  | .store _ x _ => [x]
  | .call { callee := .builtin .append, args := xs, argTypes := _ } => xs.toList.take 1
  | .call { callee := .builtin .copy, args := xs, argTypes := _ } => xs.toList.take 1
  | _ => o.op.operands.toList
theorem wr_mem {o : Oper} {x : Operand} (h : x ∈ wr o) : x ∈ o.op.operands := by
  unfold wr at h
  split at h
  · rename_i ho; simp at h; subst h; simp [ho, Op.operands]
  · rename_i ho; have := List.mem_of_mem_take h; simp [ho, Op.operands, Call.operands] at this ⊢; exact this
  · rename_i ho; have := List.mem_of_mem_take h; simp [ho, Op.operands, Call.operands] at this ⊢; exact this
  · simpa using h
/-- Operations that hand an operand on, or the address of a part of what it names. -/
def carry : Op → Option Operand
  | .fieldAddr _ x _ => some x
  | .move (.tmp t) => some (.tmp t)
  | .assign (.tmp t) => some (.tmp t)
  | .nilCheck (.tmp t) => some (.tmp t)
  | .slice _ (.tmp t) _ _ _ => some (.tmp t)
  | _ => none
theorem carry_mem {p : Op} {x : Operand} (h : carry p = some x) : x ∈ p.operands := by
  unfold carry at h
  split at h
  · cases h; simp [Op.operands]
  · cases h; simp [Op.operands]
  · cases h; simp [Op.operands]
  · cases h; simp [Op.operands]
  · cases h; simp [Op.operands]
  · cases h
/-- Operations whose value names nothing but what they make. -/
def makes : Op → Bool
  | .alloc _ | .box .. | .makeSlice .. | .buildSlice .. | .makeMap .. => true
  | .call c => match c.callee with | .builtin .append => true | _ => false
  | _ => false
/-- An operation's effect; 'c': may it write objects that were there? -/
structure Step (P : Program) (N : Value → Prop) (c : Bool) (σ : St) (o : Oper) (e : Eff) : Prop where
  ok : ∀ σ', Agree o σ σ' → OpOk P N o σ' e
  objs : ∀ p ∈ e.objs, (o.dst = some p.1 ∧ σ.obj p.1 = none) ∨ (c = true ∧ looks o = true ∧ ∃ x ∈ wr o, (ev σ x).refs p.1)
  okk : ∀ σ', Agree o σ σ' → σ'.Ok → (e.app o.dst σ').Ok
  near : ∀ x, carry o.op = some x → ∀ k, e.sv.refs k → (ev σ x).refs k
  made : makes o.op = true → ∀ k, e.sv.refs k → o.dst = some k := by first | (intro _ k hk; simp [AV.refs] at hk; done) | (intro h; simp_all [makes]; done)
/-- What an operation leaves that its guard keeps from running. -/
def skipE : Eff := ⟨.dat (.tup []), []⟩
/-- The same under the operation's guard. -/
def GStep (P : Program) (ops : Array Oper) (N : Value → Prop) (c : Bool) (σ : St) (o : Oper) (e : Eff) : Prop :=
  match o.guard with
  | none => Step P N c σ o e
  | some (j, want) => ∃ t, (ops[j]?).bind (·.dst) = some t ∧ ((∃ b, σ.slot t = .dat (.v (.bool b)) ∧ if b = want then Step P N c σ o e else e = skipE) ∨ (σ.slot t = .dat (.tup []) ∧ e = skipE))
inductive AExit where
  | normal
  | exit (id : Nat)
  | ret
  | panic (v : Value)
/-- What may be panicked. -/
abbrev panOf (K : AExit → St → Prop) : Value → Prop := fun v => ∃ σ, K (.panic v) σ
def AOps (P : Program) (ops : Array Oper) (cf : Oper → Bool) (K : AExit → St → Prop) : List Oper → St → Prop
  | [], σ => K .normal σ
  | o :: rest, σ => ∃ e, GStep P ops (panOf K) (cf o) σ o e ∧ AOps P ops cf K rest (e.app o.dst σ)
def AAny (P : Program) (ops : Array Oper) (cf : Oper → Bool) (K : AExit → St → Prop) : Nat → Array Bool → St → Prop
  | 0, listed, σ => Region.ready .any ops listed = [] ∧ K .normal σ
  | f + 1, listed, σ => (Region.ready .any ops listed = [] → K .normal σ) ∧
      ∀ i ∈ Region.ready .any ops listed, ∀ o, ops[i]? = some o → ∃ e, GStep P ops (panOf K) (cf o) σ o e ∧ AAny P ops cf K f (listed.setIfInBounds i true) (e.app o.dst σ)
/-! ### What an effect does to slots and objects -/
theorem setAll_slot : ∀ (ps : List (Nat × Obj)) (σ : St), (setAll σ ps).slot = σ.slot
  | [], _ => rfl
  | p :: ps, σ => by rw [setAll, setAll_slot ps]; rfl
theorem setAll_obj : ∀ (ps : List (Nat × Obj)) (σ : St) (k : Nat), (∀ p ∈ ps, p.1 ≠ k) → (setAll σ ps).obj k = σ.obj k
  | [], _, _, _ => rfl
  | p :: ps, σ, k, h => by
    rw [setAll, setAll_obj ps _ k (fun q hq => h q (by simp [hq])), St.obj_set, if_neg (fun e => h p (by simp) e.symm)]
theorem setAll_congr : ∀ (ps : List (Nat × Obj)) (σ σ' : St) (k : Nat), σ.obj k = σ'.obj k → (setAll σ ps).obj k = (setAll σ' ps).obj k
  | [], _, _, _, h => h
  | p :: ps, σ, σ', k, h => by
    rw [setAll, setAll]
    refine setAll_congr ps _ _ k ?_
    rw [St.obj_set, St.obj_set]; split
    · rfl
    · exact h
theorem setAll_some : ∀ (ps : List (Nat × Obj)) (σ : St) (k : Nat), σ.obj k ≠ none → (setAll σ ps).obj k ≠ none
  | [], _, _, h => h
  | p :: ps, σ, k, h => by
    rw [setAll]
    refine setAll_some ps _ k ?_
    rw [St.obj_set]; split <;> simp_all
theorem putO_obj (σ : St) (d : Option Nat) (x : AV) : (putO σ d x).obj = σ.obj := by cases d <;> rfl
theorem putO_slot (σ : St) (d : Option Nat) (x : AV) (i : Nat) : (putO σ d x).slot i = if d = some i then x else σ.slot i := by
  cases d with
  | none => simp [putO]
  | some d => simp only [putO, St.slot_put, Option.some.injEq, eq_comm]
theorem app_slot (e : Eff) (d : Option Nat) (σ : St) (i : Nat) : (e.app d σ).slot i = if d = some i then e.sv else σ.slot i := by
  unfold Eff.app; rw [putO_slot, setAll_slot]
theorem app_obj (e : Eff) (d : Option Nat) (σ : St) : (e.app d σ).obj = (setAll σ e.objs).obj := by unfold Eff.app; rw [putO_obj]
theorem ev_app (e : Eff) (d : Option Nat) (σ : St) (x : Operand) (h : ∀ t, d = some t → x ≠ .tmp t) : ev (e.app d σ) x = ev σ x := by
  cases x with
  | tmp t => simp only [ev, app_slot]; rw [if_neg (fun hd => h t hd rfl)]
  | _ => rfl
theorem St.ext {σ σ' : St} (h1 : ∀ i, σ.slot i = σ'.slot i) (h2 : ∀ i, σ.obj i = σ'.obj i) : σ = σ' := by
  cases σ; cases σ'; simp only [St.mk.injEq]; exact ⟨funext h1, funext h2⟩
end Go.Sim
/- What is proved: two operations that are apart may change places; so one order serves all. -/
namespace Go.Sim
open Go.RowKit
theorem Agree.trans {o : Oper} {σ1 σ2 σ3 : St} (h : Agree o σ1 σ2) (k : Agree o σ2 σ3) : Agree o σ1 σ3 :=
  ⟨fun x hx => (k.1 x hx).trans (h.1 x hx), fun d hd h0 => k.2.1 d hd (h.2.1 d hd h0),
    fun hl x hx id hr => (k.2.2 hl x hx id (by rw [h.1 x hx]; exact hr)).trans (h.2.2 hl x hx id hr)⟩
theorem Step.congr {P : Program} {N : Value → Prop} {c : Bool} {o : Oper} {e : Eff} {σ1 σ2 : St} (h : Step P N c σ1 o e) (k : Agree o σ1 σ2) : Step P N c σ2 o e where
  ok := fun σ' ha => h.ok σ' (k.trans ha)
  objs := fun p hp => by
    rcases h.objs p hp with ⟨h1, h2⟩ | ⟨h1, h2, x, hx, h3⟩
    · exact .inl ⟨h1, k.2.1 _ h1 h2⟩
    · exact .inr ⟨h1, h2, x, hx, by rw [k.1 x (wr_mem hx)]; exact h3⟩
  okk := fun σ' ha => h.okk σ' (k.trans ha)
  near := fun x hx j hj => by rw [k.1 x (carry_mem hx)]; exact h.near x hx j hj
  made := h.made
/-- An operation's effect, or that of one that is passed by. -/
def SD (P : Program) (N : Value → Prop) (c : Bool) (σ : St) (o : Oper) (e : Eff) : Prop := Step P N c σ o e ∨ e = skipE
theorem SD.congr {P : Program} {N : Value → Prop} {c : Bool} {o : Oper} {e : Eff} {σ1 σ2 : St} (h : SD P N c σ1 o e) (k : Agree o σ1 σ2) : SD P N c σ2 o e := h.imp (fun h => h.congr k) id
theorem SD.objs {P : Program} {N : Value → Prop} {c : Bool} {o : Oper} {e : Eff} {σ : St} (h : SD P N c σ o e) : ∀ p ∈ e.objs, (o.dst = some p.1 ∧ σ.obj p.1 = none) ∨ (c = true ∧ looks o = true ∧ ∃ x ∈ wr o, (ev σ x).refs p.1) := by
  rcases h with h | rfl
  · exact h.objs
  · intro p hp; simp [skipE] at hp
section
variable {P : Program} {N : Value → Prop} {ops : Array Oper}
/-- Slots that hold what names one object, or none, whatever the region has done. -/
def FixS (own : List (Nat × List Nat)) (σ : St) : Prop := ∀ p ∈ own, ∀ k, (σ.slot p.1).refs k → k ∈ p.2
/-- The objects that an operand may name. -/
def onm (own : List (Nat × List Nat)) : Operand → Option (List Nat)
  | .tmp t => (own.find? (fun p => Nat.beq p.1 t)).map (fun p => p.2)
  | _ => some []
theorem onm_spec {own : List (Nat × List Nat)} {σ : St} (hf : FixS own σ) {z : Operand} {l : List Nat} (h : onm own z = some l) {k : Nat} (hk : (ev σ z).refs k) : k ∈ l := by
  cases z with
  | tmp t =>
    simp only [onm, Option.map_eq_some_iff] at h
    obtain ⟨p, hp, rfl⟩ := h
    have h1 : p.1 = t := by have := List.find?_some hp; exact Nat.eq_of_beq_eq_true this
    exact hf p (List.mem_of_find?_eq_some hp) k (by rw [h1]; exact hk)
  | const v => simp only [ev] at hk; split at hk <;> simp [AV.refs] at hk
  | global v => simp [ev, AV.refs] at hk
  | func v => simp [ev, AV.refs] at hk
/-- What the one may write, the other does not name. -/
def sep (own : List (Nat × List Nat)) (x y : Oper) : Bool :=
  (wr x).all fun z => match onm own z with
    | some l => y.op.operands.toList.all fun z' => match onm own z' with | some l' => l.all (fun a => !l'.contains a) | none => false
    | none => false
theorem sep_spec {own : List (Nat × List Nat)} {σ : St} (hf : FixS own σ) {x y : Oper} (h : sep own x y = true) {z z' : Operand} (hz : z ∈ wr x) (hz' : z' ∈ y.op.operands) {k : Nat} (hk : (ev σ z).refs k) : ¬ (ev σ z').refs k := by
  intro hk'
  have h1 := List.all_eq_true.1 h z hz
  split at h1
  · rename_i l hl
    have h2 := List.all_eq_true.1 h1 z' (by simpa using hz')
    split at h2
    · rename_i l' hl'
      have := List.all_eq_true.1 h2 k (onm_spec hf hl hk)
      have h3 := onm_spec hf hl' hk'
      simp [h3] at this
    · cases h2
  · cases h1
/-- May two operations, neither of which waits for the other one, change places? -/
def indep (ops : Array Oper) (own : List (Nat × List Nat)) (cf : Oper → Bool) (x y : Oper) : Bool :=
  x.apart ops y && (!(cf x && (looks y || cf y)) || sep own x y) && (!(cf y && (looks x || cf x)) || sep own y x)
theorem mem_looks {o : Oper} {t : Tmp} (h : Operand.tmp t ∈ o.op.operands) : t ∈ o.looksAt ops :=
  List.mem_append_left _ (List.mem_filterMap.2 ⟨.tmp t, by simpa using h, rfl⟩)
/-- Behind 'x' an operation that is apart from it sees what it saw. -/
theorem agree_back {cx : Bool} {x y : Oper} {e : Eff} {σ : St} (ok : σ.Ok) (hx : SD P N cx σ x e) (hd : ∀ d, x.dst = some d → d ∉ y.looksAt ops)
    {own : List (Nat × List Nat)} (hf : FixS own σ) (hc : ¬ (cx = true ∧ looks y = true) ∨ sep own x y = true) : Agree y (e.app x.dst σ) σ ∧ Agree y σ (e.app x.dst σ) ∨ (∃ d, x.dst = some d ∧ y.dst = some d) := by
  by_cases hdd : ∃ d, x.dst = some d ∧ y.dst = some d
  · exact .inr hdd
  have hev : ∀ z ∈ y.op.operands, ev (e.app x.dst σ) z = ev σ z := fun z hz => ev_app e x.dst σ z (fun t ht hzt => hd t ht (mem_looks (hzt ▸ hz)))
  have hobj : looks y = true → ∀ z ∈ y.op.operands, ∀ k, (ev σ z).refs k → (e.app x.dst σ).obj k = σ.obj k := by
    intro hl z hz k hr
    rw [app_obj]
    refine setAll_obj _ _ _ (fun p hp hpk => ?_)
    rcases hx.objs p hp with ⟨h1, h2⟩ | ⟨h1, _, v, hv, h3⟩
    · have : σ.obj k ≠ none := by
        cases z with
        | tmp t => exact ok.1 t k hr
        | const v => simp only [ev] at hr; split at hr <;> simp [AV.refs] at hr
        | global v => simp [ev, AV.refs] at hr
        | func v => simp [ev, AV.refs] at hr
      exact this (hpk ▸ h2)
    · rcases hc with hc | hc
      · exact hc ⟨h1, hl⟩
      · exact sep_spec hf hc hv hz (hpk ▸ h3) hr
  refine .inl ⟨⟨fun z hz => (hev z hz).symm, fun d hd' h0 => ?_, fun hl z hz k hr => (hobj hl z hz k (by rw [← hev z hz]; exact hr)).symm⟩, ⟨hev, fun d hd' h0 => ?_, hobj⟩⟩
  · rw [app_obj] at h0
    cases h : σ.obj d with
    | none => rfl
    | some o => exact absurd h0 (setAll_some _ _ _ (by simp [h]))
  · rw [app_obj, setAll_obj]
    · exact h0
    · intro p hp hpk
      rcases hx.objs p hp with ⟨h1, _⟩ | ⟨h1, h2, z, hz, h3⟩
      · exact hdd ⟨d, by rw [h1, hpk], hd'⟩
      · have : σ.obj p.1 ≠ none := by
          cases z with
          | tmp t => exact ok.1 t _ h3
          | const v => simp only [ev] at h3; split at h3 <;> simp [AV.refs] at h3
          | global v => simp [ev, AV.refs] at h3
          | func v => simp [ev, AV.refs] at h3
        exact this (hpk ▸ h0)
theorem indep_spec {own : List (Nat × List Nat)} {cf : Oper → Bool} {x y : Oper} (h : indep ops own cf x y = true) :
    (∀ d, x.dst = some d → d ∉ y.looksAt ops) ∧ (∀ d, x.dst = some d → y.dst ≠ some d) ∧ (∀ d, y.dst = some d → d ∉ x.looksAt ops) ∧
      (¬ (cf x = true ∧ looks y = true) ∨ sep own x y = true) ∧ (¬ (cf y = true ∧ looks x = true) ∨ sep own y x = true) ∧ (¬ (cf x = true ∧ cf y = true) ∨ sep own x y = true) := by
  simp only [indep, Bool.and_eq_true, Bool.or_eq_true, Bool.not_eq_true', Bool.and_eq_false_iff, Bool.or_eq_false_iff] at h
  obtain ⟨⟨h1, h2⟩, h3⟩ := h
  obtain ⟨a1, a2, a3⟩ := Oper.apart_spec h1
  refine ⟨a1, a2, a3, ?_, ?_, ?_⟩
  · rcases h2 with h | h
    · left; rintro ⟨k1, k2⟩; rcases h with h | h <;> simp_all
    · exact .inr h
  · rcases h3 with h | h
    · left; rintro ⟨k1, k2⟩; rcases h with h | h <;> simp_all
    · exact .inr h
  · rcases h2 with h | h
    · left; rintro ⟨k1, k2⟩; rcases h with h | h <;> simp_all
    · exact .inr h
theorem setAll_swap : ∀ (ps qs : List (Nat × Obj)) (σ : St), (∀ p ∈ ps, ∀ q ∈ qs, p.1 ≠ q.1) → ∀ k, (setAll (setAll σ ps) qs).obj k = (setAll (setAll σ qs) ps).obj k := by
  intro ps qs σ h k
  by_cases hp : ∃ p ∈ ps, p.1 = k
  · obtain ⟨p, hp, rfl⟩ := hp
    rw [setAll_obj qs _ _ (fun q hq e => h p hp q hq e.symm)]
    exact setAll_congr ps _ _ _ (setAll_obj qs _ _ (fun q hq e => h p hp q hq e.symm)).symm
  · rw [setAll_obj ps (setAll σ qs) k (fun p hp' e => hp ⟨p, hp', e⟩)]
    exact setAll_congr qs _ _ _ (setAll_obj ps _ _ (fun p hp' e => hp ⟨p, hp', e⟩))
theorem app_swap {x y : Oper} {ex ey : Eff} {σ : St} (hd : ∀ d, x.dst = some d → y.dst ≠ some d) (ho : ∀ p ∈ ex.objs, ∀ q ∈ ey.objs, p.1 ≠ q.1) :
    ey.app y.dst (ex.app x.dst σ) = ex.app x.dst (ey.app y.dst σ) := by
  apply St.ext
  · intro i
    simp only [app_slot]
    by_cases h1 : x.dst = some i
    · simp only [if_pos h1, if_neg (hd i h1)]
    · simp only [if_neg h1]
  · intro i
    simp only [app_obj]
    have e1 : ∀ (τ : St) (d : Option Nat) (sv : AV) (qs : List (Nat × Obj)), (setAll (putO τ d sv) qs).obj i = (setAll τ qs).obj i := fun τ d sv qs => setAll_congr qs _ _ i (by rw [putO_obj])
    unfold Eff.app
    rw [e1, e1]
    exact setAll_swap ex.objs ey.objs σ ho i
/-- Two operations that are apart, each of which has its effect here, change places. -/
theorem SD.swap {own : List (Nat × List Nat)} {cf : Oper → Bool} {x y : Oper} {ex ey : Eff} {σ : St} (ok : σ.Ok) (hf : FixS own σ) (hi : indep ops own cf x y = true) (hx : SD P N (cf x) σ x ex) (hy : SD P N (cf y) (ex.app x.dst σ) y ey) :
    Agree y (ex.app x.dst σ) σ ∧ Agree x σ (ey.app y.dst σ) ∧ ey.app y.dst (ex.app x.dst σ) = ex.app x.dst (ey.app y.dst σ) := by
  obtain ⟨a1, a2, a3, a4, a5, a6⟩ := indep_spec hi
  rcases agree_back ok hx a1 hf a4 with ⟨g1, g2⟩ | ⟨d, h1, h2⟩
  · have hy' := hy.congr g1
    rcases agree_back ok hy' a3 hf a5 with ⟨g3, g4⟩ | ⟨d, h1, h2⟩
    · refine ⟨g1, g4, app_swap a2 ?_⟩
      intro p hp q hq e
      have named : ∀ (z : Oper) (id : Nat), (∃ x ∈ wr z, (ev σ x).refs id) → σ.obj id ≠ none := by
        rintro z id ⟨v, _, hv⟩
        cases v with
        | tmp t => exact ok.1 t _ hv
        | const v => simp only [ev] at hv; split at hv <;> simp [AV.refs] at hv
        | global v => simp [ev, AV.refs] at hv
        | func v => simp [ev, AV.refs] at hv
      rcases hx.objs p hp with ⟨h1, h2⟩ | ⟨h1, h2, h3⟩ <;> rcases hy'.objs q hq with ⟨k1, k2⟩ | ⟨k1, k2, k3⟩
      · exact a2 _ h1 (by rw [k1, e])
      · exact named _ _ k3 (by rw [← e]; exact h2)
      · exact named _ _ h3 (by rw [e]; exact k2)
      · rcases a6 with a6 | a6
        · exact a6 ⟨h1, k1⟩
        · obtain ⟨v, hv, h4⟩ := h3
          obtain ⟨v', hv', h5⟩ := k3
          exact sep_spec hf a6 hv (wr_mem hv') (e ▸ h4) h5
    · exact absurd h1 (a2 d h2)
  · exact absurd h2 (a2 d h1)
theorem wantSlot {x y : Oper} {e : Eff} {σ : St} {j : Nat} {want : Bool} {t : Nat} (hg : y.guard = some (j, want)) (ht : (ops[j]?).bind (·.dst) = some t) (hd : ∀ d, x.dst = some d → d ∉ y.looksAt ops) :
    (e.app x.dst σ).slot t = σ.slot t := by
  rw [app_slot, if_neg]
  intro h
  refine hd t h (List.mem_append_right _ ?_)
  simp [hg, ht]
theorem GStep.sd {c : Bool} {σ : St} {o : Oper} {e : Eff} (h : GStep P ops N c σ o e) : SD P N c σ o e := by
  unfold GStep at h
  split at h
  · exact .inl h
  · obtain ⟨t, _, ⟨b, _, h⟩ | ⟨_, h⟩⟩ := h
    · split at h
      · exact .inl h
      · exact .inr h
    · exact .inr h
theorem GStep.congr {c : Bool} {σ σ' : St} {o : Oper} {e : Eff} (h : GStep P ops N c σ o e) (k : Agree o σ σ')
    (hs : ∀ j want t, o.guard = some (j, want) → (ops[j]?).bind (·.dst) = some t → σ'.slot t = σ.slot t) : GStep P ops N c σ' o e := by
  unfold GStep at *
  split
  · rename_i hg; rw [hg] at h; exact h.congr k
  · rename_i j want hg
    rw [hg] at h
    obtain ⟨t, h1, ⟨b, h2, h3⟩ | ⟨h2, h3⟩⟩ := h
    · refine ⟨t, h1, .inl ⟨b, by rw [hs j want t hg h1]; exact h2, ?_⟩⟩
      split at h3
      · rename_i hb; rw [if_pos hb]; exact h3.congr k
      · rename_i hb; rw [if_neg hb]; exact h3
    · exact ⟨t, h1, .inr ⟨by rw [hs j want t hg h1]; exact h2, h3⟩⟩
theorem GStep.swap {own : List (Nat × List Nat)} {cf : Oper → Bool} {x y : Oper} {ex ey : Eff} {σ : St} (ok : σ.Ok) (hf : FixS own σ) (hi : indep ops own cf x y = true) (hx : GStep P ops N (cf x) σ x ex) (hy : GStep P ops N (cf y) (ex.app x.dst σ) y ey) :
    GStep P ops N (cf y) σ y ey ∧ GStep P ops N (cf x) (ey.app y.dst σ) x ex ∧ ey.app y.dst (ex.app x.dst σ) = ex.app x.dst (ey.app y.dst σ) := by
  obtain ⟨a1, a2, a3, a4, a5, a6⟩ := indep_spec hi
  obtain ⟨g1, g2, g3⟩ := SD.swap ok hf hi hx.sd hy.sd
  exact ⟨hy.congr g1 (fun j want t hg ht => (wantSlot hg ht a1).symm), hx.congr g2 (fun j want t hg ht => wantSlot hg ht a3), g3⟩
theorem GStep.ok {c : Bool} {σ : St} {o : Oper} {e : Eff} (h : GStep P ops N c σ o e) (ok : σ.Ok) : (e.app o.dst σ).Ok := by
  rcases h.sd with h | rfl
  · exact h.okk σ ⟨fun _ _ => rfl, fun _ _ h => h, fun _ _ _ _ _ => rfl⟩ ok
  · refine ⟨fun i k hk => ?_, ?_⟩
    · rw [app_slot] at hk
      rw [app_obj]
      split at hk
      · simp [skipE, AV.refs] at hk
      · exact ok.1 i k hk
    · exact ok_tail (app_obj _ _ _) ok.2
/-! ### Which operations wait for one -/
/-- Those among the first 'n' operations that wait for operation 'i', at once or through others. -/
def descs (ops : Array Oper) (i : Nat) : Nat → List Nat
  | 0 => []
  | j + 1 => match ops[j]? with
    | some o => if o.after.any (fun e => Region.binds .any e && (e.on == i || (descs ops i j).contains e.on)) then j :: descs ops i j else descs ops i j
    | none => descs ops i j
/-- What is listed has all listed that it waited for. -/
def Closed (ops : Array Oper) (listed : Array Bool) : Prop := ∀ j o, ops[j]? = some o → listed.getD j false = true → ∀ e ∈ o.after, Region.binds .any e = true → listed.getD e.on false = true
theorem descs_spec {listed : Array Bool} (hc : Closed ops listed) (i : Nat) : ∀ (n j : Nat), j ∈ descs ops i n → (j ∈ Region.ready .any ops listed ∨ listed.getD j false = true) → listed.getD i false = true
  | 0, j, h, _ => by simp [descs] at h
  | m + 1, j, h, hj => by
    simp only [descs] at h
    split at h
    · rename_i o ho
      split at h
      · rename_i hany
        rcases List.mem_cons.1 h with rfl | h
        · obtain ⟨e, he, hb⟩ := Array.any_eq_true'.1 hany
          simp only [Bool.and_eq_true, Bool.or_eq_true, beq_iff_eq, List.contains_iff_mem] at hb
          have hon : listed.getD e.on false = true := by
            rcases hj with hj | hj
            · obtain ⟨_, o', ho', hall⟩ := mem_ready.1 hj
              rw [ho] at ho'; cases ho'
              exact hall e he hb.1
            · exact hc _ o ho hj e he hb.1
          rcases hb.2 with rfl | hb2
          · exact hon
          · exact descs_spec hc i _ e.on hb2 (.inr hon)
        · exact descs_spec hc i m j h hj
      · exact descs_spec hc i m j h hj
    · exact descs_spec hc i m j h hj
theorem Closed.set {listed : Array Bool} (hc : Closed ops listed) {i : Nat} (hi : i ∈ Region.ready .any ops listed) : Closed ops (listed.setIfInBounds i true) := by
  intro j o ho hj e he hb
  by_cases hij : i = j
  · subst hij
    obtain ⟨_, o', ho', hall⟩ := mem_ready.1 hi
    rw [ho] at ho'; cases ho'
    exact getD_set_true (hall e he hb)
  · rw [getD_set_ne false hij] at hj
    exact getD_set_true (hc j o ho hj e he hb)
theorem not_ready_of_desc {listed : Array Bool} (hc : Closed ops listed) {i j n : Nat} (hi : i ∈ Region.ready .any ops listed) (hj : j ∈ Region.ready .any ops listed) (hd : j ∈ descs ops i n) : False := by
  have h1 := descs_spec hc i _ j hd (.inl hj)
  have h0 := (mem_ready.1 hi).1
  rcases Nat.lt_or_ge i listed.size with h' | h'
  · simp [h'] at h0 h1; rw [h0] at h1; cases h1
  · simp [Array.getElem?_eq_none h'] at h1
/-- Slots that always hold what names one object: no operation writes them but one that takes the address of a field of that object. -/
def ownOk (own : List (Nat × List Nat)) (o : Oper) : Bool := match o.dst with
  | some d => own.all fun p => !Nat.beq p.1 d || (match carry o.op with | some x => (match onm own x with | some l => l.all (fun k => p.2.contains k) | none => false) | none => makes o.op && p.2.contains d)
  | none => true
theorem FixS.app {own : List (Nat × List Nat)} {σ : St} (hf : FixS own σ) {o : Oper} {c : Bool} {e : Eff} (h : ownOk own o = true) (hs : GStep P ops N c σ o e)   : FixS own (e.app o.dst σ) := by
  intro p hp k hk
  rw [app_slot] at hk
  by_cases hd : o.dst = some p.1
  · rw [if_pos hd] at hk
    simp only [ownOk, hd] at h
    have h1 := List.all_eq_true.1 h p hp
    simp only [Nat.beq_refl, Bool.not_true, Bool.false_or] at h1
    split at h1
    · rename_i x ho
      split at h1
      · rename_i l hl
        rcases hs.sd with hs | rfl
        · have h2 := List.all_eq_true.1 h1 k (onm_spec hf hl (hs.near x ho k hk))
          simpa using h2
        · simp [skipE, AV.refs] at hk
      · cases h1
    · simp only [Bool.and_eq_true] at h1
      rcases hs.sd with hs | rfl
      · have h2 := hs.made h1.1 k hk
        rw [hd] at h2
        cases h2
        simpa using h1.2
      · simp [skipE, AV.refs] at hk
  · rw [if_neg hd] at hk
    exact hf p hp k hk
/-- An operation that may come up now may be taken first. -/
theorem AAny_first {own : List (Nat × List Nat)} (hw : ∀ (j : Nat) oj, ops[j]? = some oj → ownOk own oj = true) {cf : Oper → Bool} {K : AExit → St → Prop} {i : Nat} {oi : Oper} (hi : ops[i]? = some oi) :
    ∀ (fuel : Nat) (listed : Array Bool) (σ : St) (e : Eff), σ.Ok → FixS own σ → Closed ops listed →
      (∀ j oj, ops[j]? = some oj → j ≠ i → listed.getD j true = false → j ∈ descs ops i ops.size ∨ indep ops own cf oi oj = true) →
      i ∈ Region.ready .any ops listed → GStep P ops (panOf K) (cf oi) σ oi e →
      AAny P ops cf K fuel (listed.setIfInBounds i true) (e.app oi.dst σ) → AAny P ops cf K (fuel + 1) listed σ := by
  intro fuel
  induction fuel with
  | zero =>
    intro listed σ e ok hf hc hfree hr hy H
    refine ⟨fun h => (by rw [h] at hr; cases hr), fun j hj o ho => ?_⟩
    by_cases hji : j = i
    · subst hji; rw [hi] at ho; cases ho; exact ⟨e, hy, H⟩
    · have := ready_mono hj hji
      rw [H.1] at this
      cases this
  | succ fuel ih =>
    intro listed σ e ok hf hc hfree hr hy H
    refine ⟨fun h => (by rw [h] at hr; cases hr), fun j hj oj hoj => ?_⟩
    by_cases hji : j = i
    · subst hji; rw [hi] at hoj; cases hoj; exact ⟨e, hy, H⟩
    · obtain ⟨ej, h1, h2⟩ := H.2 j (ready_mono hj hji) oj hoj
      have hjun := (mem_ready.1 hj).1
      have hind := (hfree j oj hoj hji hjun).resolve_left (fun hd => not_ready_of_desc hc hr hj hd)
      obtain ⟨s1, s2, s3⟩ := GStep.swap ok hf hind hy h1
      refine ⟨ej, s1, ih (listed.setIfInBounds j true) (ej.app oj.dst σ) e (s1.ok ok) (hf.app (hw j oj hoj) s1) (hc.set hj) ?_ (ready_mono hr (Ne.symm hji)) s2 ?_⟩
      · intro k ok' hk hki hun
        refine hfree k ok' hk hki ?_
        by_cases hjk : j = k
        · subst hjk; exact hjun
        · rw [getD_set_ne true hjk] at hun; exact hun
      · rw [Array.setIfInBounds_comm _ _ hji, ← s3]
        exact h2
/-- The test: the text's order is one that may be drawn, and each operation may change places with all that do not wait for it. -/
def lexS (own : List (Nat × List Nat)) (cf : Oper → Bool) (ops : Array Oper) : Bool :=
  (ops.toList.all (ownOk own)) && (List.range ops.size).all fun i => match ops[i]? with
    | none => true
    | some oi => oi.after.all (fun e => !Region.binds .any e || decide (e.on < i)) &&
      let ds := descs ops i ops.size
      (List.range ops.size).all fun j => j ≤ i || ds.contains j || match ops[j]? with
        | some oj => indep ops own cf oi oj
        | none => true
def lexA (cf : Oper → Bool) (ops : Array Oper) : Bool := lexS [] cf ops
/-- One object a slot. -/
def ones (own : List (Nat × Nat)) : List (Nat × List Nat) := own.map fun p => (p.1, [p.2])
theorem lexS_own {own : List (Nat × List Nat)} {cf : Oper → Bool} (hB : lexS own cf ops = true) : ∀ (j : Nat) oj, ops[j]? = some oj → ownOk own oj = true := by
  intro j oj hoj
  simp only [lexS, Bool.and_eq_true] at hB
  exact List.all_eq_true.1 hB.1 oj (by simpa using Array.mem_of_getElem? hoj)
theorem AAny_lex {own : List (Nat × List Nat)} {cf : Oper → Bool} {K : AExit → St → Prop} (hB : lexS own cf ops = true) : ∀ (l : List Oper) (k : Nat) (listed : Array Bool) (σ : St), (∀ j, l[j]? = ops[k + j]?) → k + l.length = ops.size →
    listed.size = ops.size → (∀ j, j < ops.size → listed.getD j false = decide (j < k)) → σ.Ok → FixS own σ → AOps P ops cf K l σ → AAny P ops cf K l.length listed σ
  | [], k, listed, σ, hl, hk, hls, hd, ok, hf, h => by
    refine ⟨?_, h⟩
    rw [List.eq_nil_iff_forall_not_mem]
    intro j hj
    obtain ⟨h0, o, ho, _⟩ := mem_ready.1 hj
    have hlt : j < ops.size := (Array.getElem?_eq_some_iff.1 ho).1
    have := hd j hlt
    have hlt2 : j < listed.size := by omega
    simp only [List.length_nil, Nat.add_zero] at hk
    have h1 : decide (j < k) = true := by simp; omega
    rw [h1] at this
    simp [hlt2] at h0 this
    rw [this] at h0
    cases h0
  | o :: l, k, listed, σ, hl, hk, hls, hd, ok, hf, h => by
    have hown := lexS_own hB
    have hB0 := hB
    simp only [lexS, Bool.and_eq_true] at hB0
    have hB' := hB0.2
    have h0 : ops[k]? = some o := by simpa using (hl 0).symm
    have hklt : k < ops.size := (Array.getElem?_eq_some_iff.1 h0).1
    obtain ⟨e, he, hrest⟩ := h
    have hBk := List.all_eq_true.1 hB' k (by simpa using hklt)
    simp only [h0, Bool.and_eq_true] at hBk
    obtain ⟨hB1, hB2⟩ := hBk
    have hready : k ∈ Region.ready .any ops listed := by
      refine mem_ready.2 ⟨?_, o, h0, fun e' he' hb => ?_⟩
      · have := hd k hklt
        have hlt2 : k < listed.size := by omega
        simp [hlt2] at this ⊢
        exact this
      · have := Array.all_eq_true'.1 hB1 e' he'
        simp only [hb, Bool.not_true, Bool.false_or, decide_eq_true_eq] at this
        rw [hd _ (by omega)]
        simpa using this
    have hclosed : Closed ops listed := by
      intro j oj hoj hj e' he' hb
      have hjlt : j < ops.size := (Array.getElem?_eq_some_iff.1 hoj).1
      rw [hd j hjlt] at hj
      have hBj := List.all_eq_true.1 hB' j (by simpa using hjlt)
      simp only [hoj, Bool.and_eq_true] at hBj
      have := Array.all_eq_true'.1 hBj.1 e' he'
      simp only [hb, Bool.not_true, Bool.false_or, decide_eq_true_eq] at this hj
      rw [hd _ (by omega)]
      simp; omega
    refine AAny_first hown h0 l.length listed σ e ok hf hclosed ?_ hready he ?_
    · intro j oj hoj hjk hun
      have hjlt : j < ops.size := (Array.getElem?_eq_some_iff.1 hoj).1
      have hjk' : k < j := by
        have := hd j hjlt
        have hlt2 : j < listed.size := by omega
        simp [hlt2] at hun this
        rw [hun] at this
        simp at this
        omega
      have := List.all_eq_true.1 hB2 j (by simpa using hjlt)
      simp only [hoj, Bool.or_eq_true, decide_eq_true_eq, List.contains_iff_mem] at this
      rcases this with (h | h) | h
      · omega
      · exact .inl h
      · exact .inr h
    · refine AAny_lex hB l (k + 1) _ _ (fun j => by have := hl (j + 1); simpa [Nat.add_assoc, Nat.add_comm 1 j] using this) (by simp at hk; omega) (by simpa using hls) ?_ (he.ok ok) (hf.app (hown k o h0) he) hrest
      intro j hj
      by_cases hkj : k = j
      · subst hkj; simp [hls, hj]
      · rw [getD_set_ne false hkj, hd j hj]
        congr 1
        simp; omega
end
end Go.Sim
/- What is proved: rules for the code of a function over abstract states: sequences, tests, blocks, loops, regions. -/
namespace Go.Sim
open Go.RowKit
def post (B : Nat → Nat → Prop) (F : Cx) (w0 : World) (n : Nat) (Q : AExit → St → Prop) : Exit → Act → World → Prop
  | .normal, a, w => ∃ σ, Q .normal σ ∧ Rel B F w0 n σ a w
  | .exit id, a, w => ∃ σ, Q (.exit id) σ ∧ Rel B F w0 n σ a w
  | .ret, a, w => ∃ σ, Q .ret σ ∧ Rel B F w0 n σ a w
  | .panic ch, a, w => ∃ v σ, ch = pan v ∧ Q (.panic v) σ ∧ WOk B w0 w ∧ a.defers = F.D
  | _, _, _ => False
def AWp (P : Program) (B : Nat → Nat → Prop) (n : Nat) (c : Code) (σ : St) (Q : AExit → St → Prop) : Prop :=
  ∀ (F : Cx) (w0 : World) (a : Act) (w : World), Rel B F w0 n σ a w → c.wp P (post B F w0 n Q) a w
/-- What is known less of a state. -/
def Sub (σ' σ : St) : Prop := ∀ (B : Nat → Nat → Prop) (F : Cx) (w0 : World) (n : Nat) (a : Act) (w : World), Rel B F w0 n σ a w → Rel B F w0 n σ' a w
theorem Sub.refl (σ : St) : Sub σ σ := fun _ _ _ _ _ _ h => h
theorem Sub.trans {σ1 σ2 σ3 : St} (h : Sub σ1 σ2) (k : Sub σ2 σ3) : Sub σ1 σ3 := fun B F w0 n a w r => h B F w0 n a w (k B F w0 n a w r)
@[reducible] def thenQ (K : St → Prop) (Q : AExit → St → Prop) : AExit → St → Prop
  | .normal, σ => K σ
  | e, σ => Q e σ

@[reducible] def blockQ (id : Nat) (Q : AExit → St → Prop) : AExit → St → Prop
  | .exit i, σ => if i = id then Q .normal σ else Q (.exit i) σ
  | e, σ => Q e σ

theorem ev_rep {B : Nat → Nat → Prop} {F : Cx} {w0 w : World} {n : Nat} {σ : St} {a : Act} {g : Gh} (h : RelG B F w0 n σ a w g) (x : Operand) : RepS w g (ev σ x) (a.eval x) := by
  cases x with
  | tmp t => exact h.slots t
  | const v =>
    simp only [ev]
    split
    · rename_i hv; simp [RepS, RepV, RepD, Act.eval, hv]
    · trivial
  | global k => simp [RepS, RepV, RepD, Act.eval, ev, Value.oneCell']
  | func f => simp [RepS, RepV, RepD, Act.eval, ev, Value.oneCell']
section
variable {P : Program} {N : Value → Prop} {B : Nat → Nat → Prop} {n : Nat} {σ : St} {Q : AExit → St → Prop}
theorem AWp.mono {c : Code} {Q' : AExit → St → Prop} (h : AWp P B n c σ Q) (hq : ∀ e σ, Q e σ → Q' e σ) : AWp P B n c σ Q' := by
  intro F w0 a w r
  refine wp_mono (h F w0 a w r) fun e a w hp => ?_
  cases e <;> simp only [post] at hp ⊢ <;> first | exact hp.elim | (obtain ⟨σ', h1, h2⟩ := hp; exact ⟨σ', hq _ _ h1, h2⟩) | (obtain ⟨v, σ', e, h1, h2⟩ := hp; exact ⟨v, σ', e, hq _ _ h1, h2⟩)
theorem AWp.sub {c : Code} {σ' : St} (hs : Sub σ' σ) (h : AWp P B n c σ' Q) : AWp P B n c σ Q := fun F w0 a w r => h F w0 a w (hs _ _ _ _ _ _ r)
theorem AWp.seq {x y : Code} (h : AWp P B n x σ (thenQ (fun σ' => AWp P B n y σ' Q) Q)) : AWp P B n (.seq x y) σ Q := by
  intro F w0 a w r
  refine wp_seq (wp_mono (h F w0 a w r) fun e a' w' hp => ?_)
  cases e <;> simp only [post, thenQ, Exit.then] at hp ⊢ <;> first | exact hp.elim | exact hp | (obtain ⟨σ', h1, h2⟩ := hp; exact h1 F w0 a' w' h2)
theorem AWp.skip (h : Q .normal σ) : AWp P B n .skip σ Q := fun _ _ _ _ r => wp_skip ⟨σ, h, r⟩
theorem AWp.exit {id : Nat} (h : Q (.exit id) σ) : AWp P B n (.exit id) σ Q := fun _ _ _ _ r => wp_exit ⟨σ, h, r⟩
theorem AWp.ret (h : Q .ret σ) : AWp P B n .ret σ Q := fun _ _ _ _ r => wp_ret ⟨σ, h, r⟩
theorem AWp.block {id : Nat} {c : Code} (h : AWp P B n c σ (blockQ id Q)) : AWp P B n (.block id c) σ Q := by
  intro F w0 a w r
  refine wp_block (wp_mono (h F w0 a w r) fun e a' w' hp => ?_)
  cases e <;> simp only [post, blockQ, Exit.inBlock] at hp ⊢ <;> first | exact hp.elim | exact hp | skip
  rename_i i
  obtain ⟨σ', h1, h2⟩ := hp
  split at h1
  · rename_i hi; rw [if_pos hi]; exact ⟨σ', h1, h2⟩
  · rename_i hi; rw [if_neg hi]; exact ⟨σ', h1, h2⟩
theorem AWp.cond {c : Operand} {x y : Code} {b : Bool} (hc : ev σ c = .dat (.v (.bool b))) (ht : b = true → AWp P B n x σ Q) (hf : b = false → AWp P B n y σ Q) : AWp P B n (.cond c x y) σ Q := by
  intro F w0 a w r
  obtain ⟨g, r'⟩ := r
  have := raw_eval (ev_rep r' c) (by rw [hc]; rfl)
  exact wp_cond_split this (fun e => ht e F w0 a w ⟨g, r'⟩) (fun e => hf e F w0 a w ⟨g, r'⟩)
theorem AWp.condT {c : Operand} {x y : Code} (hc : ev σ c = .dat (.v (.bool true))) (h : AWp P B n x σ Q) : AWp P B n (.cond c x y) σ Q := AWp.cond hc (fun _ => h) (fun e => by cases e)
theorem AWp.condF {c : Operand} {x y : Code} (hc : ev σ c = .dat (.v (.bool false))) (h : AWp P B n y σ Q) : AWp P B n (.cond c x y) σ Q := AWp.cond hc (fun e => by cases e) (fun _ => h)
theorem wp_loop_ix {ι : Type} {c : Code} {R : Exit → Act → World → Prop} (J : ι → Act → World → Prop) (μ : ι → Nat)
    (round : ∀ x a w, J x a w → c.wp P (Exit.then (fun a' w' => ∃ y, J y a' w' ∧ μ y < μ x) R) a w) : ∀ (x : ι) (a : Act) (w : World), J x a w → (Code.loop c).wp P R a w := by
  intro x a w h₀ b k cs
  have key : ∀ m x a w, μ x = m → J x a w →
      ∃ e a' w', R e a' w' ∧ Arrives P (lone (b.at a (.code c :: .inLoop c :: k)) cs w) b k cs e a' w' := by
    intro m
    induction m using Nat.strongRecOn with
    | _ m ih =>
      intro x a w hn hI
      obtain ⟨e, a₁, w₁, hq, harr⟩ := round x a w hI b (.inLoop c :: k) cs
      cases e with
      | normal =>
        obtain ⟨y, hI₁, hlt⟩ := hq
        obtain ⟨e₂, a₂, w₂, hq₂, harr₂⟩ := ih (μ y) (hn ▸ hlt) y a₁ w₁ rfl hI₁
        exact ⟨e₂, a₂, w₂, hq₂, .of_steps (Steps.trans harr (.one step_inLoop)) harr₂⟩
      | exit id => exact ⟨_, a₁, w₁, hq, .pass (x := .inLoop c) rfl (fun _ _ => .inl (by simp)) harr⟩
      | goto l => exact ⟨_, a₁, w₁, hq, .pass (x := .inLoop c) rfl (fun _ _ => .inl (by simp)) harr⟩
      | ret => exact ⟨_, a₁, w₁, hq, .pass (x := .inLoop c) rfl (fun _ _ => .inl (by simp)) harr⟩
      | panic ch => exact ⟨_, a₁, w₁, hq, .pass (x := .inLoop c) rfl (fun _ _ => .inl (by simp)) harr⟩
      | outgrown => exact ⟨_, a₁, w₁, hq, .pass (x := .inLoop c) rfl (fun _ _ => .inl (by simp)) harr⟩
  obtain ⟨e, a', w', hq, harr⟩ := key _ x a w rfl h₀
  exact ⟨e, a', w', hq, .of_steps (.one step_loop) harr⟩
/-- A loop: 'I x' what is known at its head, 'x' going down in 'μ'. -/
theorem AWp.loop {ι : Type} {c : Code} (I : ι → St) (Inv : ι → Prop) (μ : ι → Nat) (x0 : ι) (h0 : Inv x0) (hs : Sub (I x0) σ)
    (round : ∀ x, Inv x → AWp P B n c (I x) (thenQ (fun σ' => ∃ y, Inv y ∧ μ y < μ x ∧ Sub (I y) σ') Q)) : AWp P B n (.loop c) σ Q := by
  intro F w0 a w r
  refine wp_loop_ix (fun x a w => Inv x ∧ Rel B F w0 n (I x) a w) μ ?_ x0 a w ⟨h0, hs _ _ _ _ _ _ r⟩
  rintro x a w ⟨hx, hr⟩
  refine wp_mono (round x hx F w0 a w hr) fun e a' w' hp => ?_
  cases e <;> simp only [post, thenQ, Exit.then] at hp ⊢ <;> first | exact hp.elim | exact hp | skip
  obtain ⟨σ', ⟨y, h1, h2, h3⟩, h4⟩ := hp
  exact ⟨y, ⟨h1, h3 _ _ _ _ _ _ h4⟩, h2⟩
/-! ### Regions -/
def dstOk (n : Nat) (ops : List Oper) : Bool := ops.all fun o => match o.dst with | some d => decide (d < n) | none => true
theorem dstOk_spec {n : Nat} {ops : List Oper} (h : dstOk n ops = true) {o : Oper} (ho : o ∈ ops) (d : Nat) (hd : o.dst = some d) : d < n := by
  have := List.all_eq_true.1 h o ho
  simpa [hd] using this
theorem wanted_eq {B : Nat → Nat → Prop} {F : Cx} {w0 w : World} {a : Act} {g : Gh} {ops : Array Oper} (h : RelG B F w0 n σ a w g) {o : Oper} {j : Nat} {want : Bool} {t : Nat} {b : Bool} (hg : o.guard = some (j, want)) (ht : (ops[j]?).bind (·.dst) = some t)
    (hs : σ.slot t = .dat (.v (.bool b))) : Region.wanted o (yielded ops a.tmps) = (b == want) := by
  have hu := h.slots t
  rw [hs] at hu
  have hu := raw_eval hu rfl
  simp only [Region.wanted, hg, yielded, ht]
  simp only [Array.getD_eq_getD_getElem?] at hu
  cases hh : a.tmps[t]? with
  | none => rw [hh] at hu; simp [undef] at hu
  | some v => rw [hh] at hu; simp at hu; subst hu; simp [hh]
theorem wanted_skip {B : Nat → Nat → Prop} {F : Cx} {w0 w : World} {a : Act} {g : Gh} {ops : Array Oper} (h : RelG B F w0 n σ a w g) {o : Oper} {j : Nat} {want : Bool} {t : Nat} (hg : o.guard = some (j, want)) (ht : (ops[j]?).bind (·.dst) = some t)
    (hs : σ.slot t = .dat (.tup [])) : Region.wanted o (yielded ops a.tmps) = false := by
  have hu := h.slots t
  rw [hs] at hu
  obtain ⟨us, e, hf⟩ := hu
  cases hf
  simp only [Region.wanted, hg, yielded, ht]
  simp only [Array.getD_eq_getD_getElem?] at e
  cases hh : a.tmps[t]? with
  | none => simp [hh]
  | some v => rw [hh] at e; simp at e; subst e; simp [hh]
theorem gstep_wp {N : Value → Prop} {F : Cx} {w0 w : World} {a : Act} {ops : Array Oper} {c : Bool} {i : Nat} {o : Oper} {e : Eff} (ho : ops[i]? = some o) (hd : ∀ d, o.dst = some d → d < n)
    (r : Rel B F w0 n σ a w) (h : GStep P ops N c σ o e) {R : Exit → Act → World → Prop} {K : Act → World → Prop} (hN : ∀ v a' w', N v → WOk B w0 w' → a'.defers = F.D → R (.panic (pan v)) a' w') (hK : ∀ a w, Rel B F w0 n (e.app o.dst σ) a w → K a w) : wpOp P ops R i K a w := by
  unfold wpOp
  simp only [ho]
  unfold GStep at h
  obtain ⟨g, rg⟩ := r
  have dead : e = skipE → K (a.put o.dst undef) w := by
    rintro rfl
    refine hK _ _ ⟨g, ?_⟩
    cases hdd : o.dst with
    | none => simpa [Eff.app, setAll, putO, Act.put, skipE] using rg
    | some d => exact RelG.put rg (x := .dat (.tup [])) ⟨[], rfl, .nil⟩ (fun k hk => by simp [AV.refs] at hk) (hd d hdd)
  split at h
  · rename_i hg
    have : Region.wanted o (yielded ops a.tmps) = true := by simp [Region.wanted, hg]
    rw [if_pos this]
    exact .inl (Oper.wp_mono hK (h.ok σ ⟨fun _ _ => rfl, fun _ _ h => h, fun _ _ _ _ _ => rfl⟩ B F w0 n a w hd ⟨g, rg⟩ R hN))
  · rename_i j want hg
    obtain ⟨t, h1, ⟨b, h2, h3⟩ | ⟨h2, h3⟩⟩ := h
    · rw [wanted_eq rg hg h1 h2]
      split at h3
      · rename_i hb
        rw [if_pos (by simpa using hb)]
        exact .inl (Oper.wp_mono hK (h3.ok σ ⟨fun _ _ => rfl, fun _ _ h => h, fun _ _ _ _ _ => rfl⟩ B F w0 n a w hd ⟨g, rg⟩ R hN))
      · rename_i hb
        rw [if_neg (by simpa using hb)]
        exact dead h3
    · rw [wanted_skip rg hg h1 h2]
      exact dead h3
theorem AAny.wp {F : Cx} {w0 : World} {ops : Array Oper} {cf : Oper → Bool} {K : AExit → St → Prop} (hd : dstOk n ops.toList = true) {R : Exit → Act → World → Prop}
    (hN : ∀ v a' w', panOf K v → WOk B w0 w' → a'.defers = F.D → R (.panic (pan v)) a' w') (hK : ∀ σ a w, K .normal σ → Rel B F w0 n σ a w → R .normal a w) : ∀ (fuel : Nat) (listed : Array Bool) (σ : St) (a : Act) (w : World), Rel B F w0 n σ a w → AAny P ops cf K fuel listed σ → wpAny P .any ops R fuel listed a w
  | 0, _, _, _, _, r, h => ⟨h.1, hK _ _ _ h.2 r⟩
  | fuel + 1, listed, σ, a, w, r, h => by
    refine ⟨fun h0 => hK _ _ _ (h.1 h0) r, fun i hi => ?_⟩
    obtain ⟨_, o, ho, _⟩ := mem_ready.1 hi
    obtain ⟨e, h1, h2⟩ := h.2 i hi o ho
    exact gstep_wp ho (fun d hd' => dstOk_spec hd (Array.mem_toList_iff.2 (Array.mem_of_getElem? ho)) d hd') r h1 hN (fun a' w' r' => AAny.wp hd hN hK fuel _ _ a' w' r' h2)
theorem Rel.drawn {F : Cx} {w0 w : World} {a : Act} (r : Rel B F w0 n σ a w) : Rel B F w0 n σ a { w with drawn := w.drawn + 1 } := let ⟨g, h⟩ := r; ⟨g, h.drew⟩
def Fix (own : List (Nat × Nat)) (σ : St) : Prop := ∀ p ∈ own, ∀ k, (σ.slot p.1).refs k → k = p.2
theorem Fix.nil {σ : St} : Fix [] σ := fun p hp => by cases hp
theorem Fix.cons {σ : St} {own : List (Nat × Nat)} {s id : Nat} (h : ∀ k, (σ.slot s).refs k → k = id) (k : Fix own σ) : Fix ((s, id) :: own) σ := fun p hp => by
  rcases List.mem_cons.1 hp with rfl | hp
  · exact h
  · exact k p hp
theorem Fix.ones {σ : St} {own : List (Nat × Nat)} (h : Fix own σ) : FixS (ones own) σ := fun p hp k hk => by
  obtain ⟨q, hq, rfl⟩ := List.mem_map.1 hp
  exact List.mem_singleton.2 (h q hq k hk)
/-- A region that draws its order; 'own': slots that name some objects each. -/
theorem AWp.regionS {id : Nat} {ops : Array Oper} (own : List (Nat × List Nat)) (cf : Oper → Bool) (hm : P.follows .mixedOrders = true) (hB : lexS own cf ops = true) (hd : dstOk n ops.toList = true) (hf : FixS own σ)
    (h : AOps P ops cf Q ops.toList σ) : AWp P B n (.region id ops true) σ Q := by
  intro F w0 a w r
  refine wp_region_any hm (AAny.wp (cf := cf) (K := Q) hd (fun v a' w' ⟨σ', hv⟩ h1 h2 => ⟨v, σ', rfl, hv, h1, h2⟩) (fun σ a w hq r => ⟨σ, hq, r⟩) _ _ σ a _ r.drawn ?_)
  obtain ⟨g, rg⟩ := r
  have := AAny_lex (P := P) (K := Q) hB ops.toList 0 (Array.replicate ops.size false) σ (by simp) (by simp) (by simp) (fun j hj => by simp [hj]) rg.ok hf h
  simpa using this
/-- A region that draws its order. -/
theorem AWp.regionD {id : Nat} {ops : Array Oper} (cf : Oper → Bool) (hm : P.follows .mixedOrders = true) (hB : lexA cf ops = true) (hd : dstOk n ops.toList = true)
    (h : AOps P ops cf Q ops.toList σ) : AWp P B n (.region id ops true) σ Q := AWp.regionS [] cf hm hB hd (fun p hp => by cases hp) h
theorem AOps.wp {F : Cx} {w0 : World} {ops : Array Oper} {cf : Oper → Bool} {K : AExit → St → Prop} (hd : dstOk n ops.toList = true) {R : Exit → Act → World → Prop}
    (hN : ∀ v a' w', panOf K v → WOk B w0 w' → a'.defers = F.D → R (.panic (pan v)) a' w') (hK : ∀ σ a w, K .normal σ → Rel B F w0 n σ a w → R .normal a w) : ∀ (l : List Oper) (k : Nat) (σ : St) (a : Act) (w : World), (∀ j, l[j]? = ops[k + j]?) → Rel B F w0 n σ a w → AOps P ops cf K l σ → wpOps P ops R (List.range' k l.length) a w
  | [], _, σ, a, w, _, r, h => by simpa [wpOps] using hK _ _ _ h r
  | o :: l, k, σ, a, w, hl, r, h => by
    have h0 : ops[k]? = some o := by simpa using (hl 0).symm
    obtain ⟨e, he, hrest⟩ := h
    rw [List.length_cons, List.range'_succ, wpOps_cons]
    refine gstep_wp h0 (fun d hd' => dstOk_spec hd (Array.mem_toList_iff.2 (Array.mem_of_getElem? h0)) d hd') r he hN (fun a' w' r' => ?_)
    exact AOps.wp hd hN hK l (k + 1) _ a' w' (fun j => by have := hl (j + 1); simpa [Nat.add_assoc, Nat.add_comm 1 j] using this) r' hrest
/-- A region that does not. -/
theorem AWp.regionN {id : Nat} {ops : Array Oper} (cf : Oper → Bool) (hd : dstOk n ops.toList = true) (h : AOps P ops cf Q ops.toList σ) : AWp P B n (.region id ops false) σ Q := by
  intro F w0 a w r
  refine wp_region ?_
  have := AOps.wp (P := P) (B := B) (K := Q) (R := post B F w0 n Q) hd (fun v a' w' ⟨σ', hv⟩ h1 h2 => ⟨v, σ', rfl, hv, h1, h2⟩) (fun σ a w hq r => ⟨σ, hq, r⟩) ops.toList 0 σ a w (by simp) r h
  simpa [List.range_eq_range'] using this
end
end Go.Sim
