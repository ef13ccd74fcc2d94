/- What is proved: what it means that a frame and a memory hold an abstract state, and that this lasts while other memory is written. -/
import Derived.Test.YtnhflokfcnfegaaSim1
namespace Go.Sim
open Go.RowKit

def DV.agg : DV → Bool
  | .st .. | .ar .. => true
  | _ => false

/-- A value that holds a datum. -/
def RepV (w : World) (S : Nat → Prop) : DV → Value → Prop
  | .tup xs, u => ∃ us : List Value, u = .tuple us.toArray ∧ All2 (fun x u => x.agg = true ∧ (∃ cs : List Value, u = .agg cs.toArray ∧ RepD w S x cs) ∨ x.agg = false ∧ RepD w S x [u]) xs us
  | .st ns xs, u => ∃ cs : List Value, u = .agg cs.toArray ∧ RepD w S (.st ns xs) cs
  | .ar sz xs, u => ∃ cs : List Value, u = .agg cs.toArray ∧ RepD w S (.ar sz xs) cs
  | .v x, u => RepD w S (.v x) [u]
  | .sl E sz xs, u => RepD w S (.sl E sz xs) [u]
  | .pd x, u => RepD w S (.pd x) [u]
  | .fn f xs, u => RepD w S (.fn f xs) [u]

/-- As `RepV`, for what is no tuple. -/
def RepU (w : World) (S : Nat → Prop) (x : DV) (u : Value) : Prop :=
  x.agg = true ∧ (∃ cs : List Value, u = .agg cs.toArray ∧ RepD w S x cs) ∨ x.agg = false ∧ RepD w S x [u]

theorem RepU.v {w : World} {S : Nat → Prop} {x : DV} {u : Value} (h : RepU w S x u) : RepV w S x u := by
  cases x <;> simp_all [RepU, RepV, DV.agg, RepD]

theorem RepV.u {w : World} {S : Nat → Prop} {x : DV} {u : Value} (h : RepV w S x u) (ht : ∀ xs, x ≠ .tup xs) : RepU w S x u := by
  cases x <;> simp_all [RepU, RepV, DV.agg]

theorem RepV.frame {w w' : World} {S S' : Nat → Prop} (hS : ∀ k, S k → S' k) (h : ∀ k, S k → k < w.heap.size → w'.heap[k]? = w.heap[k]?)
    {x : DV} {u : Value} (hr : RepV w S x u) : RepV w' S' x u := by
  cases x with
  | tup xs =>
    obtain ⟨us, e, hf⟩ := hr
    refine ⟨us, e, ?_⟩
    clear e
    induction hf with
    | nil => exact .nil
    | cons a _ ih =>
      refine .cons ?_ ih
      rcases a with ⟨a1, cs, e, a2⟩ | ⟨a1, a2⟩
      · exact .inl ⟨a1, cs, e, RepD.frame hS h _ _ a2⟩
      · exact .inr ⟨a1, RepD.frame hS h _ _ a2⟩
  | st ns xs => obtain ⟨cs, e, hd⟩ := hr; exact ⟨cs, e, RepD.frame hS h _ _ hd⟩
  | ar ns xs => obtain ⟨cs, e, hd⟩ := hr; exact ⟨cs, e, RepD.frame hS h _ _ hd⟩
  | v x => exact RepD.frame hS h _ _ hr
  | sl E sz xs => exact RepD.frame hS h _ _ hr
  | pd x => exact RepD.frame hS h _ _ hr
  | fn f xs => exact RepD.frame hS h _ _ hr

/-- The cells of a value that holds a datum. -/
theorem RepU.cells {w : World} {S : Nat → Prop} {x : DV} {u : Value} (h : RepU w S x u) : RepD w S x u.cells.toList := by
  rcases h with ⟨_, cs, rfl, hd⟩ | ⟨hx, hd⟩
  · simpa [Value.cells] using hd
  · cases x with
    | v y => simp only [RepD, List.cons.injEq, and_true] at hd; obtain ⟨rfl, h1⟩ := hd; cases u <;> simp_all [Value.oneCell', Value.cells, RepD]
    | sl E sz xs => have hd' := hd; simp only [RepD] at hd; obtain ⟨a, c, row, e, _⟩ := hd; simp at e; subst e; simpa [Value.cells] using hd'
    | tup xs => simp [RepD] at hd
    | pd x => have hd' := hd; simp only [RepD] at hd; obtain ⟨b, o, ds, e, _⟩ := hd; simp at e; subst e; simpa [Value.cells] using hd'
    | fn f xs => have hd' := hd; simp only [RepD] at hd; obtain ⟨vs, e, _⟩ := hd; simp at e; subst e; simpa [Value.cells] using hd'
    | st => simp [DV.agg] at hx
    | ar => simp [DV.agg] at hx

mutual
/-- Every cell of a datum is the value of one cell. -/
theorem RepD.one {w : World} {S : Nat → Prop} : ∀ (x : DV) (cs : List Value), RepD w S x cs → ∀ u ∈ cs, u.oneCell' = true
  | .v _, _, h => by simp only [RepD] at h; obtain ⟨rfl, h⟩ := h; simpa using h
  | .st ns xs, cs, h => RepF.one xs ns cs h
  | .ar _ xs, cs, h => RepF.one xs _ cs h
  | .sl _ _ _, _, h => by simp only [RepD] at h; obtain ⟨a, c, row, rfl, _⟩ := h; simp [Value.oneCell']
  | .tup _, _, h => by simp only [RepD] at h
  | .pd _, _, h => by simp only [RepD] at h; obtain ⟨b, o, ds, rfl, _⟩ := h; simp [Value.oneCell']
  | .fn _ _, _, h => by simp only [RepD] at h; obtain ⟨vs, rfl, _⟩ := h; simp [Value.oneCell']
theorem RepF.one {w : World} {S : Nat → Prop} : ∀ (xs : List DV) (ns : List Nat) (cs : List Value), RepF w S xs ns cs → ∀ u ∈ cs, u.oneCell' = true
  | [], _, _, h => by simp only [RepF] at h; obtain ⟨_, rfl⟩ := h; simp
  | x :: xs, ns, cs, h => by
    simp only [RepF] at h
    obtain ⟨n, ns', c1, c2, rfl, rfl, e3, h1, h2⟩ := h
    intro u hu
    rcases List.mem_append.1 hu with hu | hu
    · exact RepD.one x c1 h1 u hu
    · exact RepF.one xs ns' c2 h2 u hu
end

/-! ### Abstract values of a function's own -/

inductive Pa where
  | fld (i : Nat)
  | idx (i : Nat)

inductive AV where
  | dat (x : DV)
  | st (ns : List Nat) (xs : List AV)
  | oref (id : Nat)
  | pt (id : Nat) (p : List Pa) (off : Nat)
  | sp (x : DV)
  | dead

inductive Obj where
  | box (T : TypeId) (sz : Nat) (x : AV)
  | row (E : TypeId) (sz : Nat) (xs : List DV)
  | gone

structure St where
  slot : Nat → AV
  obj : Nat → Option Obj

structure Gh where
  S : Nat → Prop
  blk : Nat → Nat
  hdr : Nat → Value
  has : Nat → Prop

mutual
def RepA (w : World) (g : Gh) : AV → List Value → Prop
  | .dat x, cs => RepD w g.S x cs
  | .st ns xs, cs => RepAF w g xs ns cs
  | .oref id, cs => cs = [g.hdr id]
  | .pt id _ off, cs => cs = [.pointer (some ⟨g.blk id, off, none⟩)]
  | .sp x, cs => ∃ b o ds, cs = [.pointer (some ⟨b, o, none⟩)] ∧ RepD w g.S x ds ∧ (ds = [] ∨ g.S b ∧ ∀ j u, ds[j]? = some u → w.cell? ⟨b, o + j, none⟩ = some u)
  | .dead, cs => ∃ u : Value, cs = [u] ∧ u.oneCell' = true
def RepAF (w : World) (g : Gh) : List AV → List Nat → List Value → Prop
  | [], ns, cs => ns = [] ∧ cs = []
  | x :: xs, ns, cs => ∃ n ns' c1 c2, ns = n :: ns' ∧ cs = c1 ++ c2 ∧ c1.length = n ∧ RepA w g x c1 ∧ RepAF w g xs ns' c2
end

/-- What a slot's value is. -/
def RepS (w : World) (g : Gh) : AV → Value → Prop
  | .dat x, u => RepV w g.S x u
  | .st ns xs, u => ∃ cs : List Value, u = .agg cs.toArray ∧ RepA w g (.st ns xs) cs
  | .oref id, u => u = g.hdr id
  | .pt id _ off, u => u = .pointer (some ⟨g.blk id, off, none⟩)
  | .sp x, u => RepA w g (.sp x) [u]
  | .dead, _ => True

/-- What an object is in memory. -/
def RepO (w : World) (g : Gh) (id : Nat) : Option Obj → Prop
  | none | some .gone => ¬ g.has id
  | some (.box T sz x) => g.has id ∧ ∃ cur, w.heap[g.blk id]? = some (.cells cur T (0, 0)) ∧ cur.size = sz ∧ RepA w g x cur.toList
  | some (.row E sz xs) => (¬ g.has id ∧ xs = [] ∧ g.hdr id = .slice none 0 0) ∨
      (g.has id ∧ ∃ c cur, g.hdr id = .slice (some ⟨g.blk id, 0, none⟩) xs.length c ∧ w.heap[g.blk id]? = some (.cells cur E (0, 0)) ∧ cur.size = c * sz ∧
        xs.length ≤ c ∧ c ≤ maxLen ∧ RepF w g.S xs (List.replicate xs.length sz) (cur.toList.take (xs.length * sz)))

/-- Which objects a value names. -/
def AV.refs : AV → Nat → Prop
  | .oref id, k | .pt id _ _, k => k = id
  | .st _ xs, k => refsL xs k
  | _, _ => False
where refsL : List AV → Nat → Prop
  | [], _ => False
  | x :: xs, k => AV.refs x k ∨ refsL xs k

/-- Every object that is named is there. -/
def St.Ok (σ : St) : Prop := (∀ i k, (σ.slot i).refs k → σ.obj k ≠ none) ∧ ∀ i T sz x, σ.obj i = some (.box T sz x) → ∀ k, x.refs k → σ.obj k ≠ none

structure RelG (B F : Nat → Prop) (w0 : World) (n : Nat) (σ : St) (a : Act) (w : World) (g : Gh) : Prop where
  os : w.os = w0.os
  tape : w.tape = w0.tape
  output : w.output = w0.output
  size : w0.heap.size ≤ w.heap.size
  old : ∀ k, k < w0.heap.size → ¬ B k → w.heap[k]? = w0.heap[k]?
  n : a.tmps.size = n
  defers : a.defers = []
  sF : ∀ k, g.S k → F k ∨ w0.heap.size ≤ k
  sB : ∀ k, g.S k → k < w.heap.size
  own : ∀ i, g.has i → ¬ g.S (g.blk i) ∧ (w0.heap.size ≤ g.blk i ∨ B (g.blk i)) ∧ g.blk i < w.heap.size
  dj : ∀ i j, i ≠ j → g.has i → g.has j → g.blk i ≠ g.blk j
  slots : ∀ i, RepS w g (σ.slot i) (a.tmps.getD i undef)
  objs : ∀ i, RepO w g i (σ.obj i)
  ok : σ.Ok
  hv : ∀ i, (g.hdr i).oneCell' = true

def Rel (B F : Nat → Prop) (w0 : World) (n : Nat) (σ : St) (a : Act) (w : World) : Prop := ∃ g, RelG B F w0 n σ a w g

mutual
theorem RepA.frame {w w' : World} {g g' : Gh} (hS : ∀ k, g.S k → g'.S k) (h : ∀ k, g.S k → k < w.heap.size → w'.heap[k]? = w.heap[k]?)
    (R : Nat → Prop) (hb : ∀ i, R i → g'.blk i = g.blk i) (hh : ∀ i, R i → g'.hdr i = g.hdr i) :
    ∀ (x : AV) (cs : List Value), (∀ k, x.refs k → R k) → RepA w g x cs → RepA w' g' x cs
  | .dat x, cs, _, hr => RepD.frame hS h x cs hr
  | .st ns xs, cs, hR, hr => RepAF.frame hS h R hb hh xs ns cs (fun k hk => hR k (by simpa [AV.refs] using hk)) hr
  | .oref id, cs, hR, hr => by simp only [RepA] at hr ⊢; rw [hr, hh id (hR id (by simp [AV.refs]))]
  | .pt id p off, cs, hR, hr => by simp only [RepA] at hr ⊢; rw [hr, hb id (hR id (by simp [AV.refs]))]
  | .sp x, cs, _, hr => by
    simp only [RepA] at hr ⊢
    obtain ⟨b, o, ds, e, h2, h3⟩ := hr
    exact ⟨b, o, ds, e, RepD.frame hS h x ds h2, h3.imp id fun ⟨h1, h3⟩ => ⟨hS b h1, fun j u hj => cell?_heap h h1 (h3 j u hj)⟩⟩
  | .dead, cs, _, hr => by simp only [RepA] at hr ⊢; exact hr
theorem RepAF.frame {w w' : World} {g g' : Gh} (hS : ∀ k, g.S k → g'.S k) (h : ∀ k, g.S k → k < w.heap.size → w'.heap[k]? = w.heap[k]?)
    (R : Nat → Prop) (hb : ∀ i, R i → g'.blk i = g.blk i) (hh : ∀ i, R i → g'.hdr i = g.hdr i) :
    ∀ (xs : List AV) (ns : List Nat) (cs : List Value), (∀ k, AV.refs.refsL xs k → R k) → RepAF w g xs ns cs → RepAF w' g' xs ns cs
  | [], _, _, _, hr => by simpa only [RepAF] using hr
  | x :: xs, ns, cs, hR, hr => by
    simp only [RepAF] at hr ⊢
    obtain ⟨n, ns', c1, c2, e1, e2, e3, h1, h2⟩ := hr
    exact ⟨n, ns', c1, c2, e1, e2, e3, RepA.frame hS h R hb hh x c1 (fun k hk => hR k (.inl hk)) h1, RepAF.frame hS h R hb hh xs ns' c2 (fun k hk => hR k (.inr hk)) h2⟩
end

theorem RepS.frame {w w' : World} {g g' : Gh} (hS : ∀ k, g.S k → g'.S k) (h : ∀ k, g.S k → k < w.heap.size → w'.heap[k]? = w.heap[k]?)
    (R : Nat → Prop) (hb : ∀ i, R i → g'.blk i = g.blk i) (hh : ∀ i, R i → g'.hdr i = g.hdr i) {x : AV} {u : Value} (hR : ∀ k, x.refs k → R k)
    (hr : RepS w g x u) : RepS w' g' x u := by
  cases x with
  | dat x => exact RepV.frame hS h hr
  | st ns xs => obtain ⟨cs, e, hd⟩ := hr; exact ⟨cs, e, RepA.frame hS h R hb hh _ _ hR hd⟩
  | oref id => simp only [RepS] at hr ⊢; rw [hr, hh id (hR id (by simp [AV.refs]))]
  | pt id p off => simp only [RepS] at hr ⊢; rw [hr, hb id (hR id (by simp [AV.refs]))]
  | sp x => exact RepA.frame hS h R hb hh _ _ hR hr
  | dead => trivial

/-! ### Writing into a state -/


def St.put (σ : St) (d : Nat) (x : AV) : St := { σ with slot := fun i => if Nat.beq i d then x else σ.slot i }
def St.set (σ : St) (d : Nat) (o : Obj) : St := { σ with obj := fun i => if Nat.beq i d then some o else σ.obj i }

theorem St.slot_put (σ : St) (d : Nat) (x : AV) (i : Nat) : (σ.put d x).slot i = if i = d then x else σ.slot i := by
  simp [St.put, Nat.beq_eq]
theorem St.obj_put (σ : St) (d : Nat) (x : AV) : (σ.put d x).obj = σ.obj := rfl
theorem St.obj_set (σ : St) (d : Nat) (o : Obj) (i : Nat) : (σ.set d o).obj i = if i = d then some o else σ.obj i := by
  simp [St.set, Nat.beq_eq]
theorem St.slot_set (σ : St) (d : Nat) (o : Obj) : (σ.set d o).slot = σ.slot := rfl

end Go.Sim
