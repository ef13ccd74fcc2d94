/- What is proved: a frame and a memory go on holding an abstract state when a slot is written, the world moves on, memory is made, or an own object is written. -/
import Derived.Test.YtnhflokfcnfegaaSim4
namespace Go.Sim
open Go.RowKit

section
variable {B F : Nat → Prop} {w0 w : World} {n : Nat} {σ : St} {a : Act} {g : Gh}

def upd {α : Type} (f : Nat → α) (d : Nat) (x : α) : Nat → α := fun i => if i = d then x else f i
theorem upd_same {α : Type} (f : Nat → α) (d : Nat) (x : α) : upd f d x d = x := by simp [upd]
theorem upd_ne {α : Type} (f : Nat → α) (d : Nat) (x : α) {i : Nat} (h : i ≠ d) : upd f d x i = f i := by simp [upd, h]

theorem RelG.slots' (h : RelG B F w0 n σ a w g) {w' : World} {g' : Gh} (hS : ∀ k, g.S k → g'.S k) (hm : ∀ k, g.S k → k < w.heap.size → w'.heap[k]? = w.heap[k]?)
    (hb : ∀ i, σ.obj i ≠ none → g'.blk i = g.blk i) (hh : ∀ i, σ.obj i ≠ none → g'.hdr i = g.hdr i) (i : Nat) : RepS w' g' (σ.slot i) (a.tmps.getD i undef) :=
  RepS.frame hS hm (fun k => σ.obj k ≠ none) hb hh (h.ok.1 i) (h.slots i)

theorem RepO.frame (h : RelG B F w0 n σ a w g) {w' : World} {g' : Gh} (hS : ∀ k, g.S k → g'.S k) (hm : ∀ k, g.S k → k < w.heap.size → w'.heap[k]? = w.heap[k]?)
    (hb : ∀ i, σ.obj i ≠ none → g'.blk i = g.blk i) (hh : ∀ i, σ.obj i ≠ none → g'.hdr i = g.hdr i) (i : Nat) (hi : g'.has i ↔ g.has i)
    (hk : g.has i → w'.heap[g.blk i]? = w.heap[g.blk i]?) : RepO w' g' i (σ.obj i) := by
  have ho := h.objs i
  cases hσ : σ.obj i with
  | none => rw [hσ] at ho; simp only [RepO] at ho ⊢; rwa [hi]
  | some o =>
    rw [hσ] at ho
    have hne : σ.obj i ≠ none := by rw [hσ]; simp
    cases o with
    | gone => simp only [RepO] at ho ⊢; rwa [hi]
    | box T sz x =>
      simp only [RepO] at ho ⊢
      obtain ⟨h1, cur, h2, h3, h4⟩ := ho
      exact ⟨hi.2 h1, cur, by rw [hb i hne, hk h1]; exact h2, h3, RepA.frame hS hm (fun k => σ.obj k ≠ none) hb hh x _ (h.ok.2 i T sz x hσ) h4⟩
    | row E sz xs =>
      simp only [RepO] at ho ⊢
      rcases ho with ⟨h1, h2, h3⟩ | ⟨h1, c, cur, h2, h3, h4, h5, h6, h7⟩
      · exact .inl ⟨fun hx => h1 (hi.1 hx), h2, by rw [hh i hne]; exact h3⟩
      · exact .inr ⟨hi.2 h1, c, cur, by rw [hh i hne, hb i hne]; exact h2, by rw [hb i hne, hk h1]; exact h3, h4, h5, h6, RepF.frame hS hm _ _ _ h7⟩

/-- A slot is written. -/
theorem RelG.put (h : RelG B F w0 n σ a w g) {x : AV} {u : Value} {d : Nat} (hx : RepS w g x u) (hr : ∀ k, x.refs k → σ.obj k ≠ none) (hd : d < n) :
    RelG B F w0 n (σ.put d x) (a.put (some d) u) w g where
  os := h.os
  tape := h.tape
  output := h.output
  size := h.size
  old := h.old
  n := by simp [Act.put, h.n]
  defers := h.defers
  sF := h.sF
  sB := h.sB
  own := h.own
  dj := h.dj
  slots := by
    intro i
    rw [St.slot_put]
    by_cases hi : i = d
    · subst hi
      have : i < a.tmps.size := by rw [h.n]; exact hd
      simpa [Act.put, this] using hx
    · have hne : d ≠ i := fun e => hi e.symm
      simp only [if_neg hi]
      have := h.slots i
      simpa [Act.put, Array.getElem?_setIfInBounds_ne hne] using this
  objs := h.objs
  ok := by
    refine ⟨fun i k hk => ?_, h.ok.2⟩
    rw [St.slot_put] at hk
    split at hk
    · exact hr k hk
    · exact h.ok.1 i k hk
  hv := h.hv

/-- The world moves on: what was there is as it was; some of what is new may be shared. -/
theorem RelG.world (h : RelG B F w0 n σ a w g) {w' : World} (h1 : w'.os = w.os) (h2 : w'.tape = w.tape) (h3 : w'.output = w.output) (h4 : w.heap.size ≤ w'.heap.size)
    (h5 : ∀ k, k < w.heap.size → w'.heap[k]? = w.heap[k]?) (X : Nat → Prop) (hX : ∀ k, X k → w.heap.size ≤ k ∧ k < w'.heap.size) :
    RelG B F w0 n σ a w' { g with S := fun k => g.S k ∨ X k } where
  os := h1.trans h.os
  tape := h2.trans h.tape
  output := h3.trans h.output
  size := Nat.le_trans h.size h4
  old := fun k hk hB => (h5 k (Nat.lt_of_lt_of_le hk h.size)).trans (h.old k hk hB)
  n := h.n
  defers := h.defers
  sF := fun k hk => hk.elim (h.sF k) (fun hx => .inr (Nat.le_trans h.size (hX k hx).1))
  sB := fun k hk => hk.elim (fun hs => Nat.lt_of_lt_of_le (h.sB k hs) h4) (fun hx => (hX k hx).2)
  own := fun i hi => by
    obtain ⟨k1, k2, k3⟩ := h.own i hi
    refine ⟨fun hs => hs.elim k1 (fun hx => ?_), k2, Nat.lt_of_lt_of_le k3 h4⟩
    exact absurd (hX _ hx).1 (by simp; omega)
  dj := h.dj
  slots := h.slots' (g' := { g with S := fun k => g.S k ∨ X k }) (fun _ hk => .inl hk) (fun k _ hk => h5 k hk) (fun _ _ => rfl) (fun _ _ => rfl)
  objs := fun i => RepO.frame h (g' := { g with S := fun k => g.S k ∨ X k }) (fun _ hk => .inl hk) (fun k _ hk => h5 k hk) (fun _ _ => rfl) (fun _ _ => rfl) i Iff.rfl (fun hi => h5 _ (h.own i hi).2.2)
  ok := h.ok
  hv := h.hv

theorem RelG.drew (h : RelG B F w0 n σ a w g) : RelG B F w0 n σ a w.drew g :=
  { h with
    slots := h.slots' (w' := w.drew) (fun _ hk => hk) (fun _ _ _ => rfl) (fun _ _ => rfl) (fun _ _ => rfl)
    objs := fun i => RepO.frame h (w' := w.drew) (fun _ hk => hk) (fun _ _ _ => rfl) (fun _ _ => rfl) (fun _ _ => rfl) i Iff.rfl (fun _ => rfl) }

theorem Ok_set (ok : σ.Ok) {d : Nat} {o : Obj} (ho : ∀ T sz x, o = .box T sz x → ∀ k, x.refs k → σ.obj k ≠ none) : (σ.set d o).Ok := by
  have hmono : ∀ k, σ.obj k ≠ none → (σ.set d o).obj k ≠ none := fun k hk => by rw [St.obj_set]; split <;> simp_all
  refine ⟨fun i k hk => hmono k (ok.1 i k hk), fun i T sz x hi k hk => hmono k ?_⟩
  rw [St.obj_set] at hi
  split at hi
  · exact ho T sz x (by simpa using hi) k hk
  · exact ok.2 i T sz x hi k hk

/-- A new object, in a new block. -/
theorem RelG.alloc (h : RelG B F w0 n σ a w g) {d : Nat} (hd : σ.obj d = none) (o : Obj) (cs : Array Value) (T : TypeId) (hv : Value) (hv1 : hv.oneCell' = true)
    (ho : (∃ sz x, o = .box T sz x ∧ cs.size = sz ∧ RepA w g x cs.toList ∧ ∀ k, x.refs k → σ.obj k ≠ none) ∨
      (∃ sz xs c, o = .row T sz xs ∧ hv = .slice (some ⟨w.heap.size, 0, none⟩) xs.length c ∧ cs.size = c * sz ∧ xs.length ≤ c ∧ c ≤ maxLen ∧ RepF w g.S xs (List.replicate xs.length sz) (cs.toList.take (xs.length * sz)))) :
    RelG B F w0 n (σ.set d o) a (w.alloc (.cells cs T)) { g with blk := upd g.blk d w.heap.size, hdr := upd g.hdr d hv, has := upd g.has d True } := by
  have hne : ∀ i, σ.obj i ≠ none → i ≠ d := fun i hi e => hi (e ▸ hd)
  have hold : ∀ k, k < w.heap.size → (w.alloc (.cells cs T)).heap[k]? = w.heap[k]? := fun k hk => heap_alloc_old w _ k hk
  have hnew : (w.alloc (.cells cs T)).heap[w.heap.size]? = some (.cells cs T) := heap_alloc_new w _
  refine { os := h.os, tape := h.tape, output := h.output, size := by simp; have := h.size; omega, old := fun k hk hB => ?_, n := h.n, defers := h.defers, sF := h.sF, sB := fun k hk => by have := h.sB k hk; simp; omega, own := ?_, dj := ?_, slots := ?_, objs := ?_, ok := ?_, hv := fun i => by by_cases he : i = d <;> simp [upd, he, hv1, h.hv] }
  · exact (hold k (Nat.lt_of_lt_of_le hk h.size)).trans (h.old k hk hB)
  · intro i hi
    by_cases he : i = d
    · subst he
      simp only [upd_same]
      exact ⟨fun hs => absurd (h.sB _ hs) (by omega), .inl h.size, by simp⟩
    · simp only [upd_ne _ _ _ he] at hi ⊢
      obtain ⟨k1, k2, k3⟩ := h.own i hi
      exact ⟨k1, k2, by simp; omega⟩
  · intro i j hij hi hj
    by_cases he : i = d
    · subst he
      have hj' : j ≠ i := fun e => hij e.symm
      simp only [upd_same, upd_ne _ _ _ hj'] at hi hj ⊢
      have := (h.own j hj).2.2
      omega
    · by_cases he' : j = d
      · subst he'
        simp only [upd_same, upd_ne _ _ _ he] at hi hj ⊢
        have := (h.own i hi).2.2
        omega
      · simp only [upd_ne _ _ _ he, upd_ne _ _ _ he'] at hi hj ⊢
        exact h.dj i j hij hi hj
  · exact h.slots' (g' := { g with blk := upd g.blk d w.heap.size, hdr := upd g.hdr d hv, has := upd g.has d True }) (fun _ hk => hk) (fun k _ hk => hold k hk) (fun i hi => upd_ne _ _ _ (hne i hi)) (fun i hi => upd_ne _ _ _ (hne i hi))
  · intro i
    rw [St.obj_set]
    by_cases he : i = d
    · subst he
      simp only [if_true]
      rcases ho with ⟨sz, x, rfl, h1, h2, h3⟩ | ⟨sz, xs, c, rfl, h1, h2, h3, h4, h5⟩
      · simp only [RepO, upd_same]
        exact ⟨trivial, cs, hnew, h1, RepA.frame (g := g) (g' := { g with blk := upd g.blk i w.heap.size, hdr := upd g.hdr i hv, has := upd g.has i True }) (fun _ hk => hk) (fun k _ hk => hold k hk) (fun k => σ.obj k ≠ none) (fun j hj => upd_ne _ _ _ (hne j hj)) (fun j hj => upd_ne _ _ _ (hne j hj)) x _ h3 h2⟩
      · simp only [RepO, upd_same]
        exact .inr ⟨trivial, c, cs, h1, hnew, h2, h3, h4, RepF.frame (fun _ hk => hk) (fun k _ hk => hold k hk) _ _ _ h5⟩
    · simp only [if_neg he]
      refine RepO.frame h (g' := { g with blk := upd g.blk d w.heap.size, hdr := upd g.hdr d hv, has := upd g.has d True }) (fun _ hk => hk) (fun k _ hk => hold k hk) (fun i hi => upd_ne _ _ _ (hne i hi)) (fun i hi => upd_ne _ _ _ (hne i hi)) i (by simp only [upd_ne _ _ _ he]) (fun hi => hold _ (h.own i hi).2.2)
  · refine Ok_set h.ok fun T' sz' x' e k hk => ?_
    rcases ho with ⟨sz, x, rfl, _, _, h3⟩ | ⟨sz, xs, c, rfl, _⟩
    · cases e; exact h3 k hk
    · cases e

end
end Go.Sim
