/- What is proved: own slices of own slices: made, taken apart and put together again, read, written, shared from now on. -/
import Derived.Test.YtlkpbnhinnhlfaaGreatZLFSimE

namespace Go.Sim
open Go.RowKit
theorem holeAt_hd {m d : Nat} {hs : List (Nat × Nat)} : holeAt ((m, d) :: hs) m = some d := by
  unfold holeAt; rw [List.find?_cons, Nat.beq_refl]; rfl
theorem holeAt_tl {m m' d : Nat} {hs : List (Nat × Nat)} (h : m' ≠ m) : holeAt ((m', d) :: hs) m = holeAt hs m := by
  unfold holeAt
  rw [List.find?_cons]
  have : Nat.beq m' m = false := by
    cases hb : Nat.beq m' m with
    | false => rfl
    | true => exact absurd (Nat.eq_of_beq_eq_true hb) h
  simp only [this]
theorem holeAt_nil {m : Nat} : holeAt [] m = none := rfl
section
variable {B : Nat → Nat → Prop} {F : Cx} {w0 w : World} {n : Nat} {σ : St} {a : Act} {g : Gh}
/-- A new own slice of empty own slices, in a new block. -/
theorem RelG.allocrr (h : RelG B F w0 n σ a w g) {d : Nat} (hlt : d < 1000000) (hd : σ.obj d = none) (T E : TypeId) (sz m : Nat) (hm : m ≤ maxLen) (cs : Array Value) (hc1 : cs.size = m) (hc2 : ∀ j, j < m → cs[j]? = some (.slice none 0 0)) :
    RelG B F w0 n (σ.set d (.rr T E sz (List.replicate m []) [])) a (w.alloc (.cells cs T))
      { g with blk := upd g.blk d w.heap.size, hdr := upd g.hdr d (.slice (some ⟨w.heap.size, 0, none⟩) m m), has := upd g.has d True } := by
  have hne : ∀ i, σ.obj i ≠ none → i ≠ d := fun i hi e => hi (e ▸ hd)
  have hold : ∀ k, k < w.heap.size → (w.alloc (.cells cs T)).heap[k]? = w.heap[k]? := fun k hk => heap_alloc_old w _ k hk
  have hnew : (w.alloc (.cells cs T)).heap[w.heap.size]? = some (.cells cs T) := heap_alloc_new w _
  refine { os := h.os, tape := h.tape, output := h.output, size := by simp; have := h.size; omega, old := fun k hk hB => ?_, n := h.n, nlt := h.nlt, glob := h.glob, defers := h.defers, sF := h.sF, sB := fun k hk => by have := h.sB k hk; simp; omega, own := ?_, dj := ?_, slots := ?_, objs := ?_, ok := ?_, hv := hv_upd h rfl, sub := ?_ }
  · exact (hold k (Nat.lt_of_lt_of_le hk h.size)).trans (h.old k hk hB)
  · intro i hi
    by_cases he : i = d
    · subst he
      simp only [upd_same]
      exact ⟨fun hs => absurd (h.sB _ hs) (by omega), .inl ⟨hlt, h.size⟩, by simp⟩
    · simp only [upd_ne _ _ _ he] at hi ⊢
      obtain ⟨k1, k2, k3⟩ := h.own i hi
      exact ⟨k1, k2, by simp; omega⟩
  · intro i j hij hi hj
    by_cases he : i = d
    · subst he
      have hj' : j ≠ i := fun e => hij e.symm
      simp only [upd_same, upd_ne _ _ _ hj'] at hi hj ⊢
      have := (h.own j hj).2.2
      omega
    · by_cases he' : j = d
      · subst he'
        simp only [upd_same, upd_ne _ _ _ he] at hi hj ⊢
        have := (h.own i hi).2.2
        omega
      · simp only [upd_ne _ _ _ he, upd_ne _ _ _ he'] at hi hj ⊢
        exact h.dj i j hij hi hj
  · exact h.slots' (g' := { g with blk := upd g.blk d w.heap.size, hdr := upd g.hdr d (.slice (some ⟨w.heap.size, 0, none⟩) m m), has := upd g.has d True }) (fun _ hk => hk) (fun k _ hk => hold k hk) (fun i hi => upd_ne _ _ _ (hne i hi)) (fun i hi => upd_ne _ _ _ (hne i hi))
  · intro i
    rw [St.obj_set]
    by_cases he : i = d
    · subst he
      simp only [if_true, RepO, upd_same]
      refine ⟨trivial, m, cs, by rw [List.length_replicate], hnew, hc1, by rw [List.length_replicate]; exact Nat.le_refl _, hm, fun j xs hj => ?_⟩
      have hlt : j < m := by have := (List.getElem?_eq_some_iff.1 hj).1; rwa [List.length_replicate] at this
      have hxs : xs = [] := (List.mem_replicate.1 (List.mem_of_getElem? hj)).2
      refine ⟨_, hc2 j hlt, ?_⟩
      rw [holeAt_nil]
      exact .inl ⟨hxs, rfl⟩
    · simp only [if_neg he]
      refine RepO.frame h (g' := { g with blk := upd g.blk d w.heap.size, hdr := upd g.hdr d (.slice (some ⟨w.heap.size, 0, none⟩) m m), has := upd g.has d True }) (fun _ hk => hk) (fun k _ hk => hold k hk) (fun i hi => upd_ne _ _ _ (hne i hi)) (fun i hi => upd_ne _ _ _ (hne i hi)) i (by simp only [upd_ne _ _ _ he]) (fun hi => hold _ (h.own i hi).2.2) (fun _ _ hb => hb) (fun j b hb => hold b (h.sub i j b hb).2.2.1)
  · exact Ok_set h.ok (fun _ _ _ e => by cases e) (fun _ _ _ _ hs e p hp => by cases e; cases hp)
  · intro i j b hb
    obtain ⟨k1, k2, k3, k4, k5⟩ := h.sub i j b hb
    refine ⟨k1, k2, by simp; omega, fun k hk => ?_, k5⟩
    by_cases he : k = d
    · subst he; simp only [upd_same]; omega
    · simp only [upd_ne _ _ _ he] at hk ⊢; exact k4 k hk
/-- An own slice is taken out of the place where it stands. -/
theorem RelG.lend (h : RelG B F w0 n σ a w g) {id d m : Nat} {T E : TypeId} {sz : Nat} {xss : List (List DV)} {hs : List (Nat × Nat)} {xs : List DV} (hobj : σ.obj id = some (.rr T E sz xss hs)) (hd : σ.obj d = none)
    (hx : xss[m]? = some xs) (hm : holeAt hs m = none) (hlt : d < 1000000) : ∃ g', RelG B F w0 n ((σ.set id (.rr T E sz xss ((m, d) :: hs))).set d (.row E sz xs)) a w g' := by
  have hne : ∀ i, σ.obj i ≠ none → i ≠ d := fun i hi e => hi (e ▸ hd)
  have hid : id ≠ d := hne id (by rw [hobj]; simp)
  have hobjs : ∀ i, ((σ.set id (.rr T E sz xss ((m, d) :: hs))).set d (.row E sz xs)).obj i = if i = d then some (.row E sz xs) else if i = id then some (.rr T E sz xss ((m, d) :: hs)) else σ.obj i := fun i => by
    rw [St.obj_set]; split
    · rfl
    · rw [St.obj_set]
  have hO := h.objs id
  rw [hobj] at hO
  simp only [RepO] at hO
  obtain ⟨h1, c, cur, h2, h3, h4, h5, h6, h7⟩ := hO
  obtain ⟨u, q1, q2⟩ := h7 m xs hx
  rw [hm] at q2
  simp only at q2
  have hu1 : u.oneCell' = true := by
    rcases q2 with ⟨_, rfl⟩ | ⟨b0, c0, cur0, _, rfl, _⟩ <;> rfl
  -- the block, if there is one
  obtain ⟨b, hs', hb, hrow⟩ : ∃ (b : Nat) (hs' : Prop), (hs' → g.sub id m b) ∧ ((¬ hs' ∧ xs = [] ∧ u = .slice none 0 0) ∨
      (hs' ∧ ∃ c cur, u = .slice (some ⟨b, 0, none⟩) xs.length c ∧ w.heap[b]? = some (.cells cur E (0, 0)) ∧ cur.size = c * sz ∧
        xs.length ≤ c ∧ c ≤ maxLen ∧ RepF w g.S xs (List.replicate xs.length sz) (cur.toList.take (xs.length * sz)))) := by
    rcases q2 with ⟨e1, e2⟩ | ⟨b0, c0, cur0, e1, e2, e3⟩
    · exact ⟨0, False, fun h => h.elim, .inl ⟨fun h => h, e1, e2⟩⟩
    · exact ⟨b0, True, fun _ => e1, .inr ⟨trivial, c0, cur0, e2, e3⟩⟩
  refine ⟨{ g with blk := upd g.blk d b, hdr := upd g.hdr d u, has := upd g.has d hs', sub := fun i j b => g.sub i j b ∧ ¬ (i = id ∧ j = m) },
    { os := h.os, tape := h.tape, output := h.output, size := h.size, old := h.old, n := h.n, nlt := h.nlt, glob := h.glob, defers := h.defers, sF := h.sF, sB := h.sB, own := ?_, dj := ?_, slots := ?_, objs := ?_, ok := ?_, hv := hv_upd h hu1, sub := ?_ }⟩
  · intro i hi
    by_cases he : i = d
    · subst he
      simp only [upd_same] at hi ⊢
      obtain ⟨k1, k2, k3, _⟩ := h.sub id m b (hb hi)
      exact ⟨k1, .inl ⟨hlt, k2⟩, k3⟩
    · simp only [upd_ne _ _ _ he] at hi ⊢; exact h.own i hi
  · intro i j hij hi hj
    by_cases he : i = d
    · subst he
      have hj' : j ≠ i := fun e => hij e.symm
      simp only [upd_same, upd_ne _ _ _ hj'] at hi hj ⊢
      exact fun e => (h.sub id m b (hb hi)).2.2.2.1 j hj e.symm
    · by_cases he' : j = d
      · subst he'
        simp only [upd_same, upd_ne _ _ _ he] at hi hj ⊢
        exact (h.sub id m b (hb hj)).2.2.2.1 i hi
      · simp only [upd_ne _ _ _ he, upd_ne _ _ _ he'] at hi hj ⊢
        exact h.dj i j hij hi hj
  · exact h.slots' (g' := { g with blk := upd g.blk d b, hdr := upd g.hdr d u, has := upd g.has d hs', sub := fun i j b => g.sub i j b ∧ ¬ (i = id ∧ j = m) }) (fun _ hk => hk) (fun k _ hk => rfl) (fun i hi => upd_ne _ _ _ (hne i hi)) (fun i hi => upd_ne _ _ _ (hne i hi))
  · intro i
    rw [hobjs]
    by_cases he : i = d
    · subst he
      simp only [if_true, RepO, upd_same]
      exact hrow
    · simp only [if_neg he]
      by_cases he2 : i = id
      · subst he2
        simp only [if_true, RepO, upd_ne _ _ _ he]
        refine ⟨h1, c, cur, h2, h3, h4, h5, h6, fun j ys hj => ?_⟩
        obtain ⟨v, r1, r2⟩ := h7 j ys hj
        by_cases hjm : m = j
        · subst hjm
          refine ⟨u, q1, ?_⟩
          rw [holeAt_hd]
          simp only [upd_same]
        · refine ⟨v, r1, ?_⟩
          rw [holeAt_tl hjm]
          cases hho : holeAt hs j with
          | some d' =>
            rw [hho] at r2
            have hd' : σ.obj d' ≠ none := by
              unfold holeAt at hho
              rw [Option.map_eq_some_iff] at hho
              obtain ⟨p, hp, rfl⟩ := hho
              exact h.ok.2.2 i T E sz xss hs hobj p (List.mem_of_find?_eq_some hp)
            simp only at r2 ⊢
            rw [upd_ne _ _ _ (hne d' hd')]; exact r2
          | none =>
            rw [hho] at r2
            simp only at r2 ⊢
            rcases r2 with r2 | ⟨b0, c0, cur0, e1, e2⟩
            · exact .inl r2
            · exact .inr ⟨b0, c0, cur0, ⟨e1, fun hh => hjm hh.2.symm⟩, e2⟩
      · simp only [if_neg he2]
        exact RepO.frame h (g' := { g with blk := upd g.blk d b, hdr := upd g.hdr d u, has := upd g.has d hs', sub := fun i j b => g.sub i j b ∧ ¬ (i = id ∧ j = m) }) (fun _ hk => hk) (fun k _ hk => rfl) (fun i hi => upd_ne _ _ _ (hne i hi)) (fun i hi => upd_ne _ _ _ (hne i hi)) i (by simp only [upd_ne _ _ _ he]) (fun hi => rfl) (fun _ _ hb => ⟨hb, fun hh => he2 hh.1⟩) (fun _ _ _ => rfl)
  · have hmono : ∀ k, σ.obj k ≠ none → ((σ.set id (.rr T E sz xss ((m, d) :: hs))).set d (.row E sz xs)).obj k ≠ none := fun k hk => by
      rw [hobjs]; split
      · simp
      · split
        · simp
        · exact hk
    refine ⟨fun i k hk => hmono k (h.ok.1 i k hk), fun i T' sz' x' hi k hk => ?_, fun i T' E' sz' xss' hs2 hi p hp => ?_⟩
    · rw [hobjs] at hi
      split at hi
      · cases hi
      · split at hi
        · cases hi
        · exact hmono k (h.ok.2.1 i T' sz' x' hi k hk)
    · rw [hobjs] at hi
      split at hi
      · cases hi
      · split at hi
        · cases hi
          rcases List.mem_cons.1 hp with rfl | hp
          · rw [hobjs, if_pos rfl]; simp
          · exact hmono _ (h.ok.2.2 id T E sz xss hs hobj p hp)
        · exact hmono _ (h.ok.2.2 i T' E' sz' xss' hs2 hi p hp)
  · rintro i j b' ⟨hb', hnm⟩
    obtain ⟨k1, k2, k3, k4, k5⟩ := h.sub i j b' hb'
    refine ⟨k1, k2, k3, fun k hk => ?_, fun i' j' hb2 => k5 i' j' hb2.1⟩
    by_cases he : k = d
    · subst he
      simp only [upd_same] at hk ⊢
      intro e
      subst e
      obtain ⟨e1, e2⟩ := k5 id m (hb hk)
      exact hnm ⟨e1.symm, e2.symm⟩
    · simp only [upd_ne _ _ _ he] at hk ⊢; exact k4 k hk
/-- An own slice stands in its place again. -/
theorem RelG.unlend (h : RelG B F w0 n σ a w g) {id d m : Nat} {T E : TypeId} {sz : Nat} {xss : List (List DV)} {hs : List (Nat × Nat)} {xs : List DV} (hobj : σ.obj id = some (.rr T E sz xss ((m, d) :: hs))) (hdo : σ.obj d = some (.row E sz xs))
    (hm : holeAt hs m = none) (hlt : d < 1000000) : ∃ g', RelG B F w0 n ((σ.set id (.rr T E sz (xss.set m xs) hs)).set d .gone) a w g' := by
  have hid : id ≠ d := fun e => by rw [e, hdo] at hobj; cases hobj
  have hobjs : ∀ i, ((σ.set id (.rr T E sz (xss.set m xs) hs)).set d .gone).obj i = if i = d then some .gone else if i = id then some (.rr T E sz (xss.set m xs) hs) else σ.obj i := fun i => by
    rw [St.obj_set]; split
    · rfl
    · rw [St.obj_set]
  have hO := h.objs id
  rw [hobj] at hO
  simp only [RepO] at hO
  obtain ⟨h1, c, cur, h2, h3, h4, h5, h6, h7⟩ := hO
  have hD := h.objs d
  rw [hdo] at hD
  simp only [RepO] at hD
  refine ⟨{ g with has := upd g.has d False, sub := fun i j b => (g.sub i j b ∧ ¬ (i = id ∧ j = m)) ∨ (i = id ∧ j = m ∧ g.has d ∧ b = g.blk d) },
    { os := h.os, tape := h.tape, output := h.output, size := h.size, old := h.old, n := h.n, nlt := h.nlt, glob := h.glob, defers := h.defers, sF := h.sF, sB := h.sB, own := ?_, dj := ?_, slots := ?_, objs := ?_, ok := ?_, hv := h.hv, sub := ?_ }⟩
  · intro i hi
    by_cases he : i = d
    · subst he; simp [upd_same] at hi
    · simp only [upd_ne _ _ _ he] at hi; exact h.own i hi
  · intro i j hij hi hj
    by_cases he : i = d
    · subst he; simp [upd_same] at hi
    · by_cases he' : j = d
      · subst he'; simp [upd_same] at hj
      · simp only [upd_ne _ _ _ he, upd_ne _ _ _ he'] at hi hj; exact h.dj i j hij hi hj
  · exact h.slots' (g' := { g with has := upd g.has d False, sub := fun i j b => (g.sub i j b ∧ ¬ (i = id ∧ j = m)) ∨ (i = id ∧ j = m ∧ g.has d ∧ b = g.blk d) }) (fun _ hk => hk) (fun k _ hk => rfl) (fun i hi => rfl) (fun i hi => rfl)
  · intro i
    rw [hobjs]
    by_cases he : i = d
    · subst he; simp [RepO, upd_same]
    · simp only [if_neg he]
      by_cases he2 : i = id
      · subst he2
        simp only [if_true, RepO, upd_ne _ _ _ he]
        refine ⟨h1, c, cur, by rw [List.length_set]; exact h2, h3, h4, by rw [List.length_set]; exact h5, h6, fun j ys hj => ?_⟩
        by_cases hjm : m = j
        · subst hjm
          have hlt : m < xss.length := by have := (List.getElem?_eq_some_iff.1 hj).1; rwa [List.length_set] at this
          rw [List.getElem?_set_self hlt] at hj
          simp only [Option.some.injEq] at hj
          subst hj
          obtain ⟨v, r1, r2⟩ := h7 m _ (List.getElem?_eq_getElem hlt)
          rw [holeAt_hd] at r2
          simp only at r2
          refine ⟨v, r1, ?_⟩
          rw [hm]
          simp only
          subst r2
          rcases hD with ⟨e1, e2, e3⟩ | ⟨e1, c0, cur0, e2⟩
          · exact .inl ⟨e2, e3⟩
          · exact .inr ⟨g.blk d, c0, cur0, .inr ⟨trivial, trivial, e1, rfl⟩, e2⟩
        · rw [List.getElem?_set_ne hjm] at hj
          obtain ⟨v, r1, r2⟩ := h7 j ys hj
          refine ⟨v, r1, ?_⟩
          rw [holeAt_tl hjm] at r2
          cases hho : holeAt hs j with
          | some d' => rw [hho] at r2; exact r2
          | none =>
            rw [hho] at r2
            simp only at r2 ⊢
            rcases r2 with r2 | ⟨b0, c0, cur0, e1, e2⟩
            · exact .inl r2
            · exact .inr ⟨b0, c0, cur0, .inl ⟨e1, fun hh => hjm hh.2.symm⟩, e2⟩
      · simp only [if_neg he2]
        exact RepO.frame h (g' := { g with has := upd g.has d False, sub := fun i j b => (g.sub i j b ∧ ¬ (i = id ∧ j = m)) ∨ (i = id ∧ j = m ∧ g.has d ∧ b = g.blk d) }) (fun _ hk => hk) (fun k _ hk => rfl) (fun i hi => rfl) (fun i hi => rfl) i (by simp only [upd_ne _ _ _ he]) (fun hi => rfl) (fun _ _ hb => .inl ⟨hb, fun hh => he2 hh.1⟩) (fun _ _ _ => rfl)
  · have hmono : ∀ k, σ.obj k ≠ none → ((σ.set id (.rr T E sz (xss.set m xs) hs)).set d .gone).obj k ≠ none := fun k hk => by
      rw [hobjs]; split
      · simp
      · split
        · simp
        · exact hk
    refine ⟨fun i k hk => hmono k (h.ok.1 i k hk), fun i T' sz' x' hi k hk => ?_, fun i T' E' sz' xss' hs2 hi p hp => ?_⟩
    · rw [hobjs] at hi
      split at hi
      · cases hi
      · split at hi
        · cases hi
        · exact hmono k (h.ok.2.1 i T' sz' x' hi k hk)
    · rw [hobjs] at hi
      split at hi
      · cases hi
      · split at hi
        · cases hi
          exact hmono _ (h.ok.2.2 id T E sz xss _ hobj p (List.mem_cons_of_mem _ hp))
        · exact hmono _ (h.ok.2.2 i T' E' sz' xss' hs2 hi p hp)
  · rintro i j b' (⟨hb', hnm⟩ | ⟨rfl, rfl, hh, rfl⟩)
    · obtain ⟨k1, k2, k3, k4, k5⟩ := h.sub i j b' hb'
      refine ⟨k1, k2, k3, fun k hk => ?_, fun i' j' hb2 => ?_⟩
      · by_cases he : k = d
        · subst he; simp [upd_same] at hk
        · simp only [upd_ne _ _ _ he] at hk; exact k4 k hk
      · rcases hb2 with hb2 | ⟨_, _, e3, e4⟩
        · exact k5 i' j' hb2.1
        · exact absurd e4.symm (k4 d e3)
    · obtain ⟨k1, k2, k3⟩ := h.own d hh
      refine ⟨k1, k2.new hlt, k3, fun k hk => ?_, fun i' j' hb2 => ?_⟩
      · by_cases he : k = d
        · subst he; simp [upd_same] at hk
        · simp only [upd_ne _ _ _ he] at hk; exact h.dj k d he hk hh
      · rcases hb2 with hb2 | ⟨e1, e2, _⟩
        · exact absurd rfl ((h.sub i' j' _ hb2.1).2.2.2.1 d hh)
        · exact ⟨e1, e2⟩
/-- An own slice of own slices is shared from now on. -/
theorem RelG.freezerr (h : RelG B F w0 n σ a w g) {id : Nat} (hid : id < 1000000) {T E : TypeId} {sz : Nat} {xss : List (List DV)} (hobj : σ.obj id = some (.rr T E sz xss [])) :
    ∃ g' : Gh, RelG B F w0 n (σ.set id .gone) a w g' ∧ RepD w g'.S (.sl T 1 (xss.map fun xs => .sl E sz xs)) [g.hdr id] ∧ g'.hdr = g.hdr := by
  have hO := h.objs id
  rw [hobj] at hO
  simp only [RepO] at hO
  obtain ⟨h1, c, cur, h2, h3, h4, h5, h6, h7⟩ := hO
  have hS : ∀ k, g.S k → g.S k ∨ k = g.blk id ∨ ∃ j, g.sub id j k := fun _ hk => .inl hk
  refine ⟨{ g with S := fun k => g.S k ∨ k = g.blk id ∨ ∃ j, g.sub id j k, has := upd g.has id False, sub := fun i j b => g.sub i j b ∧ i ≠ id }, ?_, ?_, rfl⟩
  · refine { os := h.os, tape := h.tape, output := h.output, size := h.size, old := h.old, n := h.n, nlt := h.nlt, glob := h.glob, defers := h.defers, sF := ?_, sB := ?_, own := ?_, dj := ?_, slots := ?_, objs := ?_, ok := Ok_set h.ok (fun _ _ _ e => by cases e), hv := h.hv, sub := ?_ }
    · rintro k (hk | rfl | ⟨j, hj⟩)
      · exact h.sF k hk
      · exact .inr ((h.own id h1).2.1.new hid)
      · exact .inr (h.sub id j k hj).2.1
    · rintro k (hk | rfl | ⟨j, hj⟩)
      · exact h.sB k hk
      · exact (h.own id h1).2.2
      · exact (h.sub id j k hj).2.2.1
    · intro i hi
      by_cases he : i = id
      · subst he; simp [upd_same] at hi
      · simp only [upd_ne _ _ _ he] at hi
        obtain ⟨m1, m2, m3⟩ := h.own i hi
        exact ⟨fun hs => hs.elim m1 (fun hs => hs.elim (fun e => h.dj i id he hi h1 e) (fun ⟨j, hj⟩ => (h.sub id j _ hj).2.2.2.1 i hi rfl)), m2, m3⟩
    · intro i j hij hi hj
      by_cases he : i = id
      · subst he; simp [upd_same] at hi
      · by_cases he' : j = id
        · subst he'; simp [upd_same] at hj
        · simp only [upd_ne _ _ _ he, upd_ne _ _ _ he'] at hi hj; exact h.dj i j hij hi hj
    · exact h.slots' (g' := { g with S := fun k => g.S k ∨ k = g.blk id ∨ ∃ j, g.sub id j k, has := upd g.has id False, sub := fun i j b => g.sub i j b ∧ i ≠ id }) hS (fun k _ _ => rfl) (fun _ _ => rfl) (fun _ _ => rfl)
    · intro i
      rw [St.obj_set]
      by_cases he : i = id
      · subst he; simp [RepO, upd_same]
      · simp only [if_neg he]
        exact RepO.frame h (g' := { g with S := fun k => g.S k ∨ k = g.blk id ∨ ∃ j, g.sub id j k, has := upd g.has id False, sub := fun i j b => g.sub i j b ∧ i ≠ id }) hS (fun k _ _ => rfl) (fun _ _ => rfl) (fun _ _ => rfl) i (by simp only [upd_ne _ _ _ he]) (fun _ => rfl) (fun _ _ hb => ⟨hb, he⟩) (fun _ _ _ => rfl)
    · rintro i j b ⟨hb, hi⟩
      obtain ⟨k1, k2, k3, k4, k5⟩ := h.sub i j b hb
      refine ⟨fun hs => hs.elim k1 (fun hs => hs.elim (fun e => k4 id h1 e.symm) (fun ⟨j', hj'⟩ => hi (k5 id j' hj').1.symm)), k2, k3, fun k hk => ?_, fun i' j' hb2 => k5 i' j' hb2.1⟩
      by_cases he : k = id
      · subst he; simp [upd_same] at hk
      · simp only [upd_ne _ _ _ he] at hk; exact k4 k hk
  · simp only [RepD, List.length_map]
    refine ⟨_, c, cur.toList.take xss.length, by rw [h2], h5, ?_, .inr ⟨g.blk id, 0, rfl, .inr (.inl rfl), fun j u hj => ?_⟩⟩
    · -- the inner ones
      have key : ∀ (l : List (List DV)) (k : Nat), xss.drop k = l → RepF w (fun k => g.S k ∨ k = g.blk id ∨ ∃ j, g.sub id j k) (l.map fun xs => .sl E sz xs) (List.replicate l.length 1) ((cur.toList.take xss.length).drop k) := by
        intro l
        induction l with
        | nil =>
          intro k hk
          have hlen := congrArg List.length hk
          simp only [List.length_drop, List.length_nil] at hlen
          simp only [List.map_nil, RepF, List.length_nil, List.replicate_zero, true_and]
          exact List.drop_eq_nil_of_le (by simp; omega)
        | cons xs l ih =>
          intro k hk
          have hlt : k < xss.length := by
            have hlen := congrArg List.length hk
            simp only [List.length_drop, List.length_cons] at hlen
            omega
          have hxk : xss[k]? = some xs := by
            have := congrArg (fun l => l[0]?) hk
            simpa using this
          obtain ⟨u, q1, q2⟩ := h7 k xs hxk
          rw [holeAt_nil] at q2
          simp only at q2
          have hcu : (cur.toList.take xss.length)[k]? = some u := by rw [List.getElem?_take, if_pos hlt]; simpa using q1
          have hdr : (cur.toList.take xss.length).drop k = u :: (cur.toList.take xss.length).drop (k + 1) := by
            obtain ⟨hl, e⟩ := List.getElem?_eq_some_iff.1 hcu
            rw [List.drop_eq_getElem_cons hl, e]
          rw [hdr]
          simp only [List.map_cons, RepF, List.length_cons, List.replicate_succ]
          refine ⟨1, _, [u], _, rfl, rfl, rfl, ?_, ih (k + 1) (by rw [← List.drop_drop, hk]; rfl)⟩
          simp only [RepD]
          rcases q2 with ⟨rfl, rfl⟩ | ⟨b0, c0, cur0, e1, rfl, e3, e4, e5, e6, e7⟩
          · exact ⟨none, 0, [], rfl, by simp, by simp [RepF], .inl rfl⟩
          · refine ⟨_, c0, _, rfl, e5, RepF.frame hS (fun k _ _ => rfl) _ _ _ e7, .inr ⟨b0, 0, rfl, .inr (.inr ⟨k, e1⟩), fun j u hj => ?_⟩⟩
            rw [cell_of_row w _ _ cur0 E (0, 0) e3]
            rw [List.getElem?_take] at hj
            split at hj
            · simpa using hj
            · cases hj
      simpa using key xss 0 rfl
    · rw [cell_of_row w _ _ cur T (0, 0) h3]
      rw [List.getElem?_take] at hj
      split at hj
      · simpa using hj
      · cases hj
end
end Go.Sim
