/- What is proved: as the text before, for an object without memory, an object written anew in place, and one that another one takes the place of. -/
import Derived.Test.YtnhflokfcnfegaaSim5
namespace Go.Sim
open Go.RowKit

section
variable {B F : Nat → Prop} {w0 w : World} {n : Nat} {σ : St} {a : Act} {g : Gh}

theorem hv_upd (h : RelG B F w0 n σ a w g) {d : Nat} {v : Value} (hv : v.oneCell' = true) (i : Nat) : (upd g.hdr d v i).oneCell' = true := by
  unfold upd; split
  · exact hv
  · exact h.hv i

/-- An own slice that is nil. -/
theorem RelG.nilrow (h : RelG B F w0 n σ a w g) {d : Nat} (hd : σ.obj d = none) (E : TypeId) (sz : Nat) :
    RelG B F w0 n (σ.set d (.row E sz [])) a w { g with hdr := upd g.hdr d (.slice none 0 0), has := upd g.has d False } := by
  have hne : ∀ i, σ.obj i ≠ none → i ≠ d := fun i hi e => hi (e ▸ hd)
  refine { os := h.os, tape := h.tape, output := h.output, size := h.size, old := h.old, n := h.n, defers := h.defers, sF := h.sF, sB := h.sB, own := ?_, dj := ?_, slots := ?_, objs := ?_, ok := ?_, hv := hv_upd h rfl }
  · intro i hi
    by_cases he : i = d
    · subst he; simp [upd_same] at hi
    · simp only [upd_ne _ _ _ he] at hi; exact h.own i hi
  · intro i j hij hi hj
    by_cases he : i = d
    · subst he; simp [upd_same] at hi
    · by_cases he' : j = d
      · subst he'; simp [upd_same] at hj
      · simp only [upd_ne _ _ _ he, upd_ne _ _ _ he'] at hi hj; exact h.dj i j hij hi hj
  · exact h.slots' (g' := { g with hdr := upd g.hdr d (.slice none 0 0), has := upd g.has d False }) (fun _ hk => hk) (fun k _ hk => rfl) (fun i hi => rfl) (fun i hi => upd_ne _ _ _ (hne i hi))
  · intro i
    rw [St.obj_set]
    by_cases he : i = d
    · subst he
      simp only [if_true, RepO, upd_same]
      exact .inl ⟨fun h => h, by simp⟩
    · simp only [if_neg he]
      exact RepO.frame h (g' := { g with hdr := upd g.hdr d (.slice none 0 0), has := upd g.has d False }) (fun _ hk => hk) (fun k _ hk => rfl) (fun i hi => rfl) (fun i hi => upd_ne _ _ _ (hne i hi)) i (by simp only [upd_ne _ _ _ he]) (fun hi => rfl)
  · exact Ok_set h.ok (fun _ _ _ e => by cases e)

/-- An object is written in its place. -/
theorem RelG.rewrite (h : RelG B F w0 n σ a w g) {id : Nat} (hid : g.has id) (hobj : σ.obj id ≠ none) (cs : Array Value) (o : Obj)
    (ho : RepO (w.setRow (g.blk id) cs) g id (some o)) (hr : ∀ T sz x, o = .box T sz x → ∀ k, x.refs k → σ.obj k ≠ none) :
    RelG B F w0 n (σ.set id o) a (w.setRow (g.blk id) cs) g := by
  obtain ⟨k1, k2, k3⟩ := h.own id hid
  have hS : ∀ k, g.S k → k < w.heap.size → (w.setRow (g.blk id) cs).heap[k]? = w.heap[k]? := fun k hk _ => setRow_other w _ _ _ (fun e => k1 (e ▸ hk))
  refine { os := h.os, tape := h.tape, output := h.output, size := by simpa using h.size, old := fun k hk hB => ?_, n := h.n, defers := h.defers, sF := h.sF, sB := by simpa using h.sB, own := by simpa using h.own, dj := h.dj, slots := ?_, objs := ?_, ok := Ok_set h.ok hr, hv := h.hv }
  · rw [setRow_other]
    · exact h.old k hk hB
    · intro e
      rcases k2 with k2 | k2
      · omega
      · exact hB (e ▸ k2)
  · exact h.slots' (g' := g) (fun _ hk => hk) hS (fun _ _ => rfl) (fun _ _ => rfl)
  · intro i
    rw [St.obj_set]
    by_cases he : i = id
    · subst he; simpa using ho
    · simp only [if_neg he]
      exact RepO.frame h (g' := g) (fun _ hk => hk) hS (fun _ _ => rfl) (fun _ _ => rfl) i Iff.rfl (fun hi => setRow_other w _ _ _ (fun e => h.dj i id he hi hid e))

/-- An own slice is done with; another one stands for it. -/
theorem RelG.reown (h : RelG B F w0 n σ a w g) {id d : Nat} (hobj : σ.obj id ≠ none) (hd : σ.obj d = none) {w' : World} (h1 : w'.os = w.os) (h2 : w'.tape = w.tape) (h3 : w'.output = w.output)
    (h4 : w.heap.size ≤ w'.heap.size) (h5 : ∀ k, k < w.heap.size → (g.has id → k ≠ g.blk id) → w'.heap[k]? = w.heap[k]?) (b : Nat) (hv : Value) (hv1 : hv.oneCell' = true) (hs : Prop)
    (hb : hs → (w.heap.size ≤ b ∧ b < w'.heap.size) ∨ (g.has id ∧ b = g.blk id)) (E : TypeId) (sz : Nat) (xs : List DV)
    (ho : (¬ hs ∧ xs = [] ∧ hv = .slice none 0 0) ∨
      (hs ∧ ∃ c cur, hv = .slice (some ⟨b, 0, none⟩) xs.length c ∧ w'.heap[b]? = some (.cells cur E (0, 0)) ∧ cur.size = c * sz ∧
        xs.length ≤ c ∧ c ≤ maxLen ∧ RepF w g.S xs (List.replicate xs.length sz) (cur.toList.take (xs.length * sz)))) :
    RelG B F w0 n ((σ.set id .gone).set d (.row E sz xs)) a w' { g with blk := upd g.blk d b, hdr := upd g.hdr d hv, has := upd (upd g.has id False) d hs } := by
  have hne : ∀ i, σ.obj i ≠ none → i ≠ d := fun i hi e => hi (e ▸ hd)
  have hid : id ≠ d := hne id hobj
  have hS : ∀ k, g.S k → k < w.heap.size → w'.heap[k]? = w.heap[k]? := fun k hk hlt => h5 k hlt (fun hi e => (h.own id hi).1 (e ▸ hk))
  have hobjs : ∀ i, ((σ.set id .gone).set d (.row E sz xs)).obj i = if i = d then some (.row E sz xs) else if i = id then some .gone else σ.obj i := fun i => by
    rw [St.obj_set]; split
    · rfl
    · rw [St.obj_set]
  refine { os := h1.trans h.os, tape := h2.trans h.tape, output := h3.trans h.output, size := Nat.le_trans h.size h4, old := fun k hk hB => ?_, n := h.n, defers := h.defers, sF := h.sF, sB := fun k hk => Nat.lt_of_lt_of_le (h.sB k hk) h4, own := ?_, dj := ?_, slots := ?_, objs := ?_, ok := ?_, hv := fun i => by by_cases he : i = d <;> simp [upd, he, hv1, h.hv] }
  · rw [h5 k (Nat.lt_of_lt_of_le hk h.size)]
    · exact h.old k hk hB
    · intro hi e
      rcases (h.own id hi).2.1 with k2 | k2
      · omega
      · exact hB (e ▸ k2)
  · intro i hi
    by_cases he : i = d
    · subst he
      simp only [upd_same] at hi ⊢
      rcases hb hi with ⟨k1, k2⟩ | ⟨k1, rfl⟩
      · exact ⟨fun hs' => absurd (h.sB _ hs') (by omega), .inl (Nat.le_trans h.size k1), k2⟩
      · obtain ⟨m1, m2, m3⟩ := h.own id k1
        exact ⟨m1, m2, Nat.lt_of_lt_of_le m3 h4⟩
    · simp only [upd_ne _ _ _ he] at hi ⊢
      by_cases he2 : i = id
      · subst he2; simp [upd_same] at hi
      · simp only [upd_ne _ _ _ he2] at hi
        obtain ⟨m1, m2, m3⟩ := h.own i hi
        exact ⟨m1, m2, Nat.lt_of_lt_of_le m3 h4⟩
  · have key : ∀ j, j ≠ d → upd (upd g.has id False) d hs j → j ≠ id ∧ g.has j := fun j hj hh => by
      simp only [upd_ne _ _ _ hj] at hh
      by_cases he2 : j = id
      · subst he2; simp [upd_same] at hh
      · simp only [upd_ne _ _ _ he2] at hh; exact ⟨he2, hh⟩
    have key2 : ∀ j, j ≠ d → hs → upd (upd g.has id False) d hs j → g.blk j ≠ b := fun j hj hs' hh e => by
      obtain ⟨m1, m2⟩ := key j hj hh
      rcases hb hs' with ⟨k1, k2⟩ | ⟨k1, rfl⟩
      · have := (h.own j m2).2.2; omega
      · exact h.dj j id m1 m2 k1 e
    intro i j hij hi hj
    by_cases he : i = d
    · subst he
      have hj' : j ≠ i := fun e => hij e.symm
      have := key2 j hj' (by simpa [upd_same] using hi) hj
      simp only [upd_same, upd_ne _ _ _ hj']
      exact fun e => this e.symm
    · by_cases he' : j = d
      · subst he'
        have := key2 i he (by simpa [upd_same] using hj) hi
        simpa only [upd_same, upd_ne _ _ _ he]
      · simp only [upd_ne _ _ _ he, upd_ne _ _ _ he']
        exact h.dj i j hij (key i he hi).2 (key j he' hj).2
  · exact h.slots' (g' := { g with blk := upd g.blk d b, hdr := upd g.hdr d hv, has := upd (upd g.has id False) d hs }) (fun _ hk => hk) hS (fun i hi => upd_ne _ _ _ (hne i hi)) (fun i hi => upd_ne _ _ _ (hne i hi))
  · intro i
    rw [hobjs]
    by_cases he : i = d
    · subst he
      simp only [if_true, RepO, upd_same]
      rcases ho with ⟨m1, m2, m3⟩ | ⟨m1, c, cur, m2, m3, m4, m5, m6, m7⟩
      · exact .inl ⟨m1, m2, m3⟩
      · exact .inr ⟨m1, c, cur, m2, m3, m4, m5, m6, RepF.frame (fun _ hk => hk) hS _ _ _ m7⟩
    · simp only [if_neg he]
      by_cases he2 : i = id
      · subst he2
        simp only [if_true, RepO, upd_ne _ _ _ he, upd_same, not_false_eq_true]
      · simp only [if_neg he2]
        exact RepO.frame h (g' := { g with blk := upd g.blk d b, hdr := upd g.hdr d hv, has := upd (upd g.has id False) d hs }) (fun _ hk => hk) hS (fun i hi => upd_ne _ _ _ (hne i hi)) (fun i hi => upd_ne _ _ _ (hne i hi)) i (by simp only [upd_ne _ _ _ he, upd_ne _ _ _ he2])
          (fun hi => h5 _ (h.own i hi).2.2 (fun hk e => h.dj i id he2 hi hk e))
  · exact Ok_set (Ok_set h.ok (fun _ _ _ e => by cases e)) (fun _ _ _ e => by cases e)

/-- An own slice is shared from now on: it is no object any more, and may be read as closed data. -/
theorem RelG.freeze (h : RelG B F w0 n σ a w g) (hB : ∀ k, ¬ B k) {id : Nat} {E : TypeId} {sz : Nat} {xs : List DV} (hobj : σ.obj id = some (.row E sz xs)) :
    RelG B F w0 n (σ.set id .gone) a w { g with S := fun k => g.S k ∨ (g.has id ∧ k = g.blk id), has := upd g.has id False } ∧
      RepD w (fun k => g.S k ∨ (g.has id ∧ k = g.blk id)) (.sl E sz xs) [g.hdr id] := by
  have hS : ∀ k, g.S k → g.S k ∨ (g.has id ∧ k = g.blk id) := fun _ hk => .inl hk
  constructor
  · refine { os := h.os, tape := h.tape, output := h.output, size := h.size, old := h.old, n := h.n, defers := h.defers, sF := ?_, sB := ?_, own := ?_, dj := ?_, slots := ?_, objs := ?_, ok := Ok_set h.ok (fun _ _ _ e => by cases e), hv := h.hv }
    · rintro k (hk | ⟨hk, rfl⟩)
      · exact h.sF k hk
      · exact .inr ((h.own id hk).2.1.resolve_right (hB _))
    · rintro k (hk | ⟨hk, rfl⟩)
      · exact h.sB k hk
      · exact (h.own id hk).2.2
    · intro i hi
      by_cases he : i = id
      · subst he; simp [upd_same] at hi
      · simp only [upd_ne _ _ _ he] at hi
        obtain ⟨m1, m2, m3⟩ := h.own i hi
        exact ⟨fun hs => hs.elim m1 (fun ⟨k1, k2⟩ => h.dj i id he hi k1 k2), m2, m3⟩
    · intro i j hij hi hj
      by_cases he : i = id
      · subst he; simp [upd_same] at hi
      · by_cases he' : j = id
        · subst he'; simp [upd_same] at hj
        · simp only [upd_ne _ _ _ he, upd_ne _ _ _ he'] at hi hj; exact h.dj i j hij hi hj
    · exact h.slots' (g' := { g with S := fun k => g.S k ∨ (g.has id ∧ k = g.blk id), has := upd g.has id False }) hS (fun k _ _ => rfl) (fun _ _ => rfl) (fun _ _ => rfl)
    · intro i
      rw [St.obj_set]
      by_cases he : i = id
      · subst he; simp [RepO, upd_same]
      · simp only [if_neg he]
        exact RepO.frame h (g' := { g with S := fun k => g.S k ∨ (g.has id ∧ k = g.blk id), has := upd g.has id False }) hS (fun k _ _ => rfl) (fun _ _ => rfl) (fun _ _ => rfl) i (by simp only [upd_ne _ _ _ he]) (fun _ => rfl)
  · have ho := h.objs id
    rw [hobj] at ho
    simp only [RepO] at ho
    simp only [RepD]
    rcases ho with ⟨m1, rfl, m3⟩ | ⟨m1, c, cur, m2, m3, m4, m5, m6, m7⟩
    · exact ⟨none, 0, [], by simp [m3], by simp, by simp [RepF], .inl rfl⟩
    · refine ⟨_, c, _, by rw [m2], m5, RepF.frame hS (fun k _ _ => rfl) _ _ _ m7, .inr ⟨g.blk id, 0, rfl, .inr ⟨m1, rfl⟩, fun j u hj => ?_⟩⟩
      rw [cell_of_row w _ _ cur E (0, 0) m3]
      rw [List.getElem?_take] at hj
      split at hj
      · simpa using hj
      · cases hj

end
end Go.Sim
