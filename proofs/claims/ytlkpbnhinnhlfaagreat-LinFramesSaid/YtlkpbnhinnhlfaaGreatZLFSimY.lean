/- What is proved: own slices of own slices that grow by one more at their end. -/
import Derived.Test.YtlkpbnhinnhlfaaGreatZLFSimW

namespace Go.Sim
open Go.RowKit
section
variable {B : Nat → Nat → Prop} {F : Cx} {w0 w : World} {n : Nat} {σ : St} {a : Act} {g : Gh}
/-- A new slice of what is held by own slices that stand for its places. -/
theorem RelG.allocrr2 (h : RelG B F w0 n σ a w g) {d : Nat} (hlt : d < 1000000) (hd : σ.obj d = none) (T E : TypeId) (sz : Nat) (xss : List (List DV)) (hs : List (Nat × Nat)) (hm : xss.length ≤ maxLen) (cs : Array Value) (hc1 : cs.size = xss.length)
    (hc2 : ∀ j, j < xss.length → ∃ d', holeAt hs j = some d' ∧ d' ≠ d ∧ cs[j]? = some (g.hdr d')) (hp : ∀ p ∈ hs, σ.obj p.2 ≠ none) :
    RelG B F w0 n (σ.set d (.rr T E sz xss hs)) a (w.alloc (.cells cs T))
      { g with blk := upd g.blk d w.heap.size, hdr := upd g.hdr d (.slice (some ⟨w.heap.size, 0, none⟩) xss.length xss.length), has := upd g.has d True } := by
  have hne : ∀ i, σ.obj i ≠ none → i ≠ d := fun i hi e => hi (e ▸ hd)
  have hold : ∀ k, k < w.heap.size → (w.alloc (.cells cs T)).heap[k]? = w.heap[k]? := fun k hk => heap_alloc_old w _ k hk
  have hnew : (w.alloc (.cells cs T)).heap[w.heap.size]? = some (.cells cs T) := heap_alloc_new w _
  refine { os := h.os, tape := h.tape, output := h.output, size := by simp; have := h.size; omega, old := fun k hk hB => ?_, n := h.n, nlt := h.nlt, glob := h.glob, defers := h.defers, sF := h.sF, sB := fun k hk => by have := h.sB k hk; simp; omega, own := ?_, dj := ?_, slots := ?_, objs := ?_, ok := ?_, hv := hv_upd h rfl, sub := ?_ }
  · exact (hold k (Nat.lt_of_lt_of_le hk h.size)).trans (h.old k hk hB)
  · intro i hi
    by_cases he : i = d
    · subst he
      simp only [upd_same]
      exact ⟨fun hs => absurd (h.sB _ hs) (by omega), .inl ⟨hlt, h.size⟩, by simp⟩
    · simp only [upd_ne _ _ _ he] at hi ⊢
      obtain ⟨k1, k2, k3⟩ := h.own i hi
      exact ⟨k1, k2, by simp; omega⟩
  · intro i j hij hi hj
    by_cases he : i = d
    · subst he
      have hj' : j ≠ i := fun e => hij e.symm
      simp only [upd_same, upd_ne _ _ _ hj'] at hi hj ⊢
      have := (h.own j hj).2.2
      omega
    · by_cases he' : j = d
      · subst he'
        simp only [upd_same, upd_ne _ _ _ he] at hi hj ⊢
        have := (h.own i hi).2.2
        omega
      · simp only [upd_ne _ _ _ he, upd_ne _ _ _ he'] at hi hj ⊢
        exact h.dj i j hij hi hj
  · exact h.slots' (g' := { g with blk := upd g.blk d w.heap.size, hdr := upd g.hdr d (.slice (some ⟨w.heap.size, 0, none⟩) xss.length xss.length), has := upd g.has d True }) (fun _ hk => hk) (fun k _ hk => hold k hk) (fun i hi => upd_ne _ _ _ (hne i hi)) (fun i hi => upd_ne _ _ _ (hne i hi))
  · intro i
    rw [St.obj_set]
    by_cases he : i = d
    · subst he
      simp only [if_true, RepO, upd_same]
      refine ⟨trivial, xss.length, cs, rfl, hnew, hc1, Nat.le_refl _, hm, fun j xs hj => ?_⟩
      obtain ⟨d', e1, e2, e3⟩ := hc2 j (List.getElem?_eq_some_iff.1 hj).1
      refine ⟨_, e3, ?_⟩
      rw [e1]
      show g.hdr d' = upd g.hdr i _ d'
      rw [upd_ne _ _ _ e2]
    · simp only [if_neg he]
      refine RepO.frame h (g' := { g with blk := upd g.blk d w.heap.size, hdr := upd g.hdr d (.slice (some ⟨w.heap.size, 0, none⟩) xss.length xss.length), has := upd g.has d True }) (fun _ hk => hk) (fun k _ hk => hold k hk) (fun i hi => upd_ne _ _ _ (hne i hi)) (fun i hi => upd_ne _ _ _ (hne i hi)) i (by simp only [upd_ne _ _ _ he]) (fun hi => hold _ (h.own i hi).2.2) (fun _ _ hb => hb) (fun j b hb => hold b (h.sub i j b hb).2.2.1)
  · exact Ok_set h.ok (fun _ _ _ e => by cases e) (fun _ _ _ _ hs' e p hp' => by cases e; exact hp p hp')
  · intro i j b hb
    obtain ⟨k1, k2, k3, k4, k5⟩ := h.sub i j b hb
    refine ⟨k1, k2, by simp; omega, fun k hk => ?_, k5⟩
    by_cases he : k = d
    · subst he; simp only [upd_same]; omega
    · simp only [upd_ne _ _ _ he] at hk ⊢; exact k4 k hk
/-- One more at the end, held by an own slice. -/
theorem RelG.reownrr (h : RelG B F w0 n σ a w g) {id d id2 : Nat} (hlt : d < 1000000) (hlid : id < 1000000) {T E : TypeId} {sz : Nat} {xss : List (List DV)} {xs : List DV} (hobj : σ.obj id = some (.rr T E sz xss [])) (hd : σ.obj d = none) (hd2 : σ.obj id2 ≠ none) {w' : World} (h1 : w'.os = w.os) (h2 : w'.tape = w.tape) (h3 : w'.output = w.output)
    (h4 : w.heap.size ≤ w'.heap.size) (h5 : ∀ k, k < w.heap.size → k ≠ g.blk id → w'.heap[k]? = w.heap[k]?) (b : Nat) (hb : (w.heap.size ≤ b ∧ b < w'.heap.size) ∨ b = g.blk id) (c : Nat) (cur cur0 : Array Value) (q0 : w.heap[g.blk id]? = some (.cells cur0 T (0, 0))) (q3 : w'.heap[b]? = some (.cells cur T (0, 0))) (q4 : cur.size = c) (q5 : xss.length + 1 ≤ c) (q6 : c ≤ maxLen)
    (q7 : ∀ j, j < xss.length → cur[j]? = cur0[j]?) (q8 : cur[xss.length]? = some (g.hdr id2)) :
    ∃ g', RelG B F w0 n ((σ.set id .gone).set d (.rr T E sz (xss ++ [xs]) [(xss.length, id2)])) a w' g' ∧ g'.hdr d = .slice (some ⟨b, 0, none⟩) (xss.length + 1) c := by
  have hne : ∀ i, σ.obj i ≠ none → i ≠ d := fun i hi e => hi (e ▸ hd)
  have hid : id ≠ d := hne id (by rw [hobj]; simp)
  have hO := h.objs id
  rw [hobj] at hO
  simp only [RepO] at hO
  obtain ⟨m1, c0, cur1, m2, m3, m4, m5, m6, m7⟩ := hO
  rw [q0] at m3
  have ec : cur0 = cur1 := by simpa using m3
  subst ec
  have hown := h.own id m1
  have hS : ∀ k, g.S k → k < w.heap.size → w'.heap[k]? = w.heap[k]? := fun k hk hlt => h5 k hlt (fun e => hown.1 (e ▸ hk))
  have hobjs : ∀ i, ((σ.set id .gone).set d (.rr T E sz (xss ++ [xs]) [(xss.length, id2)])).obj i = if i = d then some (.rr T E sz (xss ++ [xs]) [(xss.length, id2)]) else if i = id then some .gone else σ.obj i := fun i => by
    rw [St.obj_set]; split
    · rfl
    · rw [St.obj_set]
  have hbS : ¬ g.S b := fun hs => by
    rcases hb with ⟨k1, _⟩ | rfl
    · have := h.sB _ hs; omega
    · exact hown.1 hs
  have hblt : b < w'.heap.size := by
    rcases hb with ⟨_, k2⟩ | rfl
    · exact k2
    · exact Nat.lt_of_lt_of_le hown.2.2 h4
  have hbge : w0.heap.size ≤ b := by
    rcases hb with ⟨k1, _⟩ | rfl
    · exact Nat.le_trans h.size k1
    · exact hown.2.1.new hlid
  have hbsub : ∀ i j k, g.sub i j k → b ≠ k := fun i j k hk e => by
    obtain ⟨s1, s2, s3, s4, s5⟩ := h.sub i j k hk
    rcases hb with ⟨k1, _⟩ | rfl
    · omega
    · exact s4 id m1 e
  have key : ∀ j, j ≠ d → upd (upd g.has id False) d True j → j ≠ id ∧ g.has j := fun j hj hh => by
    simp only [upd_ne _ _ _ hj] at hh
    by_cases he2 : j = id
    · subst he2; simp [upd_same] at hh
    · simp only [upd_ne _ _ _ he2] at hh; exact ⟨he2, hh⟩
  have key2 : ∀ j, j ≠ d → upd (upd g.has id False) d True j → g.blk j ≠ b := fun j hj hh e => by
    obtain ⟨n1, n2⟩ := key j hj hh
    rcases hb with ⟨k1, k2⟩ | rfl
    · have := (h.own j n2).2.2; omega
    · exact h.dj j id n1 n2 m1 e
  refine ⟨{ g with blk := upd g.blk d b, hdr := upd g.hdr d (.slice (some ⟨b, 0, none⟩) (xss.length + 1) c), has := upd (upd g.has id False) d True, sub := fun i j k => (i = d ∧ g.sub id j k) ∨ (i ≠ d ∧ i ≠ id ∧ g.sub i j k) }, { os := h1.trans h.os, tape := h2.trans h.tape, output := h3.trans h.output, size := Nat.le_trans h.size h4, old := fun k hk hB => ?_, n := h.n, nlt := h.nlt, glob := h.glob, defers := h.defers, sF := h.sF, sB := fun k hk => Nat.lt_of_lt_of_le (h.sB k hk) h4, own := ?_, dj := ?_, slots := ?_, objs := ?_, ok := ?_, hv := hv_upd h rfl, sub := ?_ }, by simp [upd_same]⟩
  · rw [h5 k (Nat.lt_of_lt_of_le hk h.size)]
    · exact h.old k hk hB
    · intro e
      have := hown.2.1.new hlid; omega
  · intro i hi
    by_cases he : i = d
    · subst he
      simp only [upd_same]
      exact ⟨hbS, .inl ⟨hlt, hbge⟩, hblt⟩
    · obtain ⟨n1, n2⟩ := key i he hi
      simp only [upd_ne _ _ _ he]
      obtain ⟨k1, k2, k3⟩ := h.own i n2
      exact ⟨k1, k2, Nat.lt_of_lt_of_le k3 h4⟩
  · intro i j hij hi hj
    by_cases he : i = d
    · subst he
      have hj' : j ≠ i := fun e => hij e.symm
      have := key2 j hj' hj
      simp only [upd_same, upd_ne _ _ _ hj']
      exact fun e => this e.symm
    · by_cases he' : j = d
      · subst he'
        have := key2 i he hi
        simpa only [upd_same, upd_ne _ _ _ he]
      · simp only [upd_ne _ _ _ he, upd_ne _ _ _ he']
        exact h.dj i j hij (key i he hi).2 (key j he' hj).2
  · exact h.slots' (g' := { g with blk := upd g.blk d b, hdr := upd g.hdr d (.slice (some ⟨b, 0, none⟩) (xss.length + 1) c), has := upd (upd g.has id False) d True, sub := fun i j k => (i = d ∧ g.sub id j k) ∨ (i ≠ d ∧ i ≠ id ∧ g.sub i j k) }) (fun _ hk => hk) hS (fun i hi => upd_ne _ _ _ (hne i hi)) (fun i hi => upd_ne _ _ _ (hne i hi))
  · intro i
    rw [hobjs]
    by_cases he : i = d
    · subst he
      simp only [if_true, RepO, upd_same]
      refine ⟨trivial, c, cur, by rw [List.length_append]; rfl, q3, q4, by rw [List.length_append]; exact q5, q6, fun j ys hj => ?_⟩
      by_cases hjl : j < xss.length
      · rw [List.getElem?_append_left hjl] at hj
        obtain ⟨u, k1, k2⟩ := m7 j ys hj
        refine ⟨u, by rw [q7 j hjl]; exact k1, ?_⟩
        rw [hole_one (show xss.length ≠ j by omega)]
        rw [holeAt_nil] at k2
        rcases k2 with k2 | ⟨b0, c1, cur2, e1, e2, e3, e4, e5, e6, e7⟩
        · exact .inl k2
        · refine .inr ⟨b0, c1, cur2, .inl ⟨trivial, e1⟩, e2, ?_, e4, e5, e6, RepF.frame (fun _ hk => hk) hS _ _ _ e7⟩
          obtain ⟨s1, s2, s3, s4, s5⟩ := h.sub id j b0 e1
          rw [h5 b0 s3 (fun e => s4 id m1 e.symm)]; exact e3
      · have hlen := (List.getElem?_eq_some_iff.1 hj).1
        rw [List.length_append, List.length_singleton] at hlen
        have : j = xss.length := by omega
        subst this
        refine ⟨_, q8, ?_⟩
        rw [holeAt_hd]
        show g.hdr id2 = upd g.hdr i _ id2
        rw [upd_ne _ _ _ (hne id2 hd2)]
    · simp only [if_neg he]
      by_cases he2 : i = id
      · subst he2
        simp only [if_true, RepO, upd_ne _ _ _ he, upd_same, not_false_eq_true]
      · simp only [if_neg he2]
        exact RepO.frame h (g' := { g with blk := upd g.blk d b, hdr := upd g.hdr d (.slice (some ⟨b, 0, none⟩) (xss.length + 1) c), has := upd (upd g.has id False) d True, sub := fun i j k => (i = d ∧ g.sub id j k) ∨ (i ≠ d ∧ i ≠ id ∧ g.sub i j k) }) (fun _ hk => hk) hS (fun i hi => upd_ne _ _ _ (hne i hi)) (fun i hi => upd_ne _ _ _ (hne i hi)) i (by simp only [upd_ne _ _ _ he, upd_ne _ _ _ he2])
          (fun hi => h5 _ (h.own i hi).2.2 (fun e => h.dj i id he2 hi m1 e)) (fun _ _ hb => .inr ⟨he, he2, hb⟩) (fun j b' hb' => h5 _ (h.sub i j b' hb').2.2.1 (fun e => (h.sub i j b' hb').2.2.2.1 id m1 e.symm))
  · refine Ok_set (Ok_set h.ok (fun _ _ _ e => by cases e)) (fun _ _ _ e => by cases e) (fun _ _ _ _ hs' e p hp' => ?_)
    cases e
    simp only [List.mem_singleton] at hp'
    subst hp'
    show (σ.set id .gone).obj id2 ≠ none
    rw [St.obj_set]; split
    · simp
    · exact hd2
  · rintro i j k (⟨rfl, hk⟩ | ⟨i1, i2, hk⟩)
    · obtain ⟨s1, s2, s3, s4, s5⟩ := h.sub id j k hk
      refine ⟨s1, s2, Nat.lt_of_lt_of_le s3 h4, fun m hm => ?_, fun i' j' hb' => ?_⟩
      · by_cases he : m = i
        · subst he; simp only [upd_same]; exact hbsub id j k hk
        · simp only [upd_ne _ _ _ he]; exact s4 m (key m he hm).2
      · rcases hb' with ⟨e, hb'⟩ | ⟨n1, n2, hb'⟩
        · exact ⟨e, (s5 id j' hb').2⟩
        · exact absurd (s5 i' j' hb').1 n2
    · obtain ⟨s1, s2, s3, s4, s5⟩ := h.sub i j k hk
      refine ⟨s1, s2, Nat.lt_of_lt_of_le s3 h4, fun m hm => ?_, fun i' j' hb' => ?_⟩
      · by_cases he : m = d
        · subst he; simp only [upd_same]; exact hbsub i j k hk
        · simp only [upd_ne _ _ _ he]; exact s4 m (key m he hm).2
      · rcases hb' with ⟨e, hb'⟩ | ⟨n1, n2, hb'⟩
        · exact absurd (s5 id j' hb').1.symm i2
        · exact s5 i' j' hb'
end
section
variable {P : Program} {N : Value → Prop} {T : Tab} {σ : St}
/-- A literal without a part, one's own. -/
theorem Step.litrr0 (hT : TabOk P T) {c : Bool} {o : Oper} {d : Nat} {t : TypeId} {E1 E : TypeId} {sz : Nat} {te : TE} (ho : o.op = .buildSlice t 0 #[]) (hd : o.dst = some d) (hn : σ.obj d = none) (hs : slE T t = some (E1, te)) :
    Step P N c σ o ⟨.oref d, [(d, .rr E1 E sz [] [])]⟩ where
  ok := by
    rintro σ' hA B F w0 n a w hdn ⟨g, r⟩ Q _
    have hn' := hA.2.1 d hd hn
    obtain ⟨cs, h1, h2, h3, h4⟩ := run_buildSlice hT r (ps := #[]) hs (m := 0) (by omega) (ys := []) (by rfl)
    unfold Oper.wp
    have hrun : (execOp a.eval o).run P w = .ok (.value (.slice (some ⟨w.heap.size, 0, none⟩) 0 0)) (w.alloc (.cells cs E1)) := by
      simp only [execOp, ho, Sem.run_bind, h1, Result.andThen_ok, Sem.run_pure]
    rw [hrun, Oper.upon_value, hd]
    exact ⟨_, (r.allocrr2 (Nat.lt_of_lt_of_le (hdn d hd) r.nlt) hn' E1 E sz [] [] (by simp) cs (by rw [h4]; simp) (fun j hj => by simp at hj) (fun p hp => by cases hp)).put (x := .oref d) (by simp [RepS, upd_same]) (fun k hk => by simp only [AV.refs] at hk; rw [hk, St.obj_set, if_pos rfl]; simp) (hdn d hd)⟩
  objs := fun p hp => by simp only [List.mem_singleton] at hp; subst hp; exact .inl ⟨hd, hn⟩
  okk := fun σ' hA ok => by rw [hd]; exact Ok_new ok (fun _ _ _ e => by cases e) (fun k hk => .inl (by simpa [AV.refs] using hk)) (fun _ _ _ _ _ e p hp => by cases e; cases hp)
  near := fun y h => by rw [ho] at h; simp [carry] at h
  made := fun _ k hk => by simp only [AV.refs] at hk; rw [hk]; exact hd
/-- A literal of one own slice, one's own. -/
theorem Step.litrr1 (hT : TabOk P T) {c : Bool} {o : Oper} {d y id : Nat} {t : TypeId} {E1 E : TypeId} {sz : Nat} {te : TE} {xs : List DV} (ho : o.op = .buildSlice t 1 #[(0, .tmp y)]) (hd : o.dst = some d) (hn : σ.obj d = none) (hs : slE T t = some (E1, te)) (h1 : te.size = 1)
    (hy : σ.slot y = .oref id) (hne : id ≠ d) : Step P N c σ o ⟨.oref d, [(d, .rr E1 E sz [xs] [(0, id)])]⟩ where
  ok := by
    rintro σ' hA B F w0 n a w hdn ⟨g, r⟩ Q _
    have hn' := hA.2.1 d hd hn
    have hmy : Operand.tmp y ∈ o.op.operands := by simp [ho, Op.operands]
    have hy' : σ'.slot y = .oref id := by have := hA.1 _ hmy; exact this.trans hy
    have hid : σ'.obj id ≠ none := r.ok.1 y id (by rw [hy']; simp [AV.refs])
    have hsl := r.slots y
    rw [hy'] at hsl
    simp only [RepS] at hsl
    have r2 : RelG B F w0 n (σ'.put y (.dat (.any fun v => v = g.hdr id))) a w g := r.slotDat (d := y) (by simp only [RepS, RepV, RepD]; exact ⟨_, rfl, by rw [hsl]; exact r.hv id, hsl⟩)
    obtain ⟨cs, k1, k2, k3, k4⟩ := run_buildSlice hT r2 (ps := #[(0, .tmp y)]) hs (m := 1) (by omega) (ys := [.any fun v => v = g.hdr id]) (by
      have e : ev (σ'.put y (.dat (.any fun v => v = g.hdr id))) (.tmp y) = .dat (.any fun v => v = g.hdr id) := by
        show (σ'.put y _).slot y = _
        rw [St.slot_put, if_pos rfl]
      have e2 : nilT T E1 (.dat (.any fun v => v = g.hdr id)) = .dat (.any fun v => v = g.hdr id) := by rfl
      show buildS T E1 te.size _ [(0, .tmp y)] [te.zero] = _
      simp only [buildS, e, e2]
      rw [h1]
      rfl)
    have hcs : cs = #[g.hdr id] := by
      simp only [RepF, RepD] at k3
      obtain ⟨n1, ns', c1, c2, e1, e2, e3, ⟨v, rfl, _, rfl⟩, e5, rfl⟩ := k3
      rw [← Array.toList_inj, e2]; rfl
    unfold Oper.wp
    have hrun : (execOp a.eval o).run P w = .ok (.value (.slice (some ⟨w.heap.size, 0, none⟩) 1 1)) (w.alloc (.cells cs E1)) := by
      simp only [execOp, ho, Sem.run_bind, k1, Result.andThen_ok, Sem.run_pure]
    rw [hrun, Oper.upon_value, hd]
    refine ⟨_, (r.allocrr2 (Nat.lt_of_lt_of_le (hdn d hd) r.nlt) hn' E1 E sz [xs] [(0, id)] (by simp [maxLen]) cs (by rw [hcs]; rfl) (fun j hj => ?_) (fun p hp => by simp only [List.mem_singleton] at hp; subst hp; exact hid)).put (x := .oref d) (by simp [RepS, upd_same]) (fun k hk => by simp only [AV.refs] at hk; rw [hk, St.obj_set, if_pos rfl]; simp) (hdn d hd)⟩
    have hj0 : j = 0 := by simpa using hj
    subst hj0
    exact ⟨id, holeAt_hd, hne, by rw [hcs]; rfl⟩
  objs := fun p hp => by simp only [List.mem_singleton] at hp; subst hp; exact .inl ⟨hd, hn⟩
  okk := fun σ' hA ok => by
    have hmy : Operand.tmp y ∈ o.op.operands := by simp [ho, Op.operands]
    have hy' : σ'.slot y = .oref id := by have := hA.1 _ hmy; exact this.trans hy
    have hid : σ'.obj id ≠ none := ok.1 y id (by rw [hy']; simp [AV.refs])
    rw [hd]
    exact Ok_new ok (fun _ _ _ e => by cases e) (fun k hk => .inl (by simpa [AV.refs] using hk)) (fun _ _ _ _ _ e p hp => by cases e; simp only [List.mem_singleton] at hp; subst hp; exact hid)
  near := fun y h => by rw [ho] at h; simp [carry] at h
  made := fun _ k hk => by simp only [AV.refs] at hk; rw [hk]; exact hd
/-- One own slice more at the end. -/
theorem Step.appendrr (hT : TabOk P T) {o : Oper} {d id z id2 : Nat} {t E1 E T' : TypeId} {sz : Nat} {te : TE} {x y : Operand} {xss : List (List DV)} {xs : List DV}
    (ho : o.op = .call { callee := .builtin .append, args := #[x, y], argTypes := #[t, t] }) (hd : o.dst = some d) (hn : σ.obj d = none) (hs : slE T t = some (E1, te)) (h1 : te.size = 1)
    (hx : ev σ x = .oref id) (hob : σ.obj id = some (.rr E1 E sz xss [])) (hy : ev σ y = .oref z) (hoz : σ.obj z = some (.rr T' E sz [xs] [(0, id2)])) (h63 : xss.length + 1 ≤ maxLen) (hby : (xss.length + 1) * te.bytes ≤ 140737488355328) (hlid : id < 1000000) :
    Step P N true σ o ⟨.oref d, [(id, .gone), (d, .rr E1 E sz (xss ++ [xs]) [(xss.length, id2)])]⟩ where
  ok := by
    rintro σ' hA B F w0 n a w hdn ⟨g, r⟩ Q _
    have hmx : x ∈ o.op.operands := by simp [ho, Op.operands, Call.operands]
    have hmy : y ∈ o.op.operands := by simp [ho, Op.operands, Call.operands]
    have hlk : looks o = true := by simp [looks, ho]
    have hn' := hA.2.1 d hd hn
    have hob' : σ'.obj id = some (.rr E1 E sz xss []) := by rw [hA.2.2 hlk x hmx id (by rw [hx]; simp [AV.refs])]; exact hob
    have hoz' : σ'.obj z = some (.rr T' E sz [xs] [(0, id2)]) := by rw [hA.2.2 hlk y hmy z (by rw [hy]; simp [AV.refs])]; exact hoz
    have hid2 : σ'.obj id2 ≠ none := r.ok.2.2 z _ _ _ _ _ hoz' (0, id2) (by simp)
    have hevx := ev_rep r x
    rw [hA.1 x hmx, hx] at hevx
    have hevy := ev_rep r y
    rw [hA.1 y hmy, hy] at hevy
    simp only [RepS] at hevx hevy
    have hO := r.objs id
    rw [hob'] at hO
    simp only [RepO] at hO
    obtain ⟨m1, c0, cur0, m2, m3, m4, m5, m6, m7⟩ := hO
    have hZ := r.objs z
    rw [hoz'] at hZ
    simp only [RepO] at hZ
    obtain ⟨z1, zc, zcur, z2, z3, z4, z5, z6, z7⟩ := hZ
    have hz0 : zcur[0]? = some (g.hdr id2) := by
      obtain ⟨u, u1, u2⟩ := z7 0 xs rfl
      rw [holeAt_hd] at u2
      simp only at u2
      rw [u1, u2]
    obtain ⟨hu, hE, _⟩ := slE_ok hT hs
    obtain ⟨i, dd, zz, q1, q2, q3, q4, q5, q6, q7, q8, q9, q10⟩ := hE
    have hi1 : i.size = 1 := by rw [q4, h1]
    have hown : w.ownsRow 0 E1 1 (.slice (some ⟨g.blk id, 0, none⟩) xss.length c0) xss.length (cur0.toList.take xss.length) :=
      ⟨by have hc0 : cur0.toList.length = c0 := (Array.length_toList (xs := cur0)).trans m4
          simp only [List.length_take, hc0]; omega, .inr ⟨_, c0, cur0, rfl, Nat.zero_le _, m3, m5, m6, by rw [m4, Nat.mul_one], by rw [Nat.mul_one]⟩⟩
    have hsrc : ∀ j u, [g.hdr id2][j]? = some u → w.cell? ((⟨g.blk z, 0, none⟩ : Addr).add j) = some u := fun j u hj => by
      have hj0 : j = 0 := by have := (List.getElem?_eq_some_iff.1 hj).1; simpa using this
      subst hj0
      rw [addr_add, Nat.zero_add, cell_of_row w _ 0 zcur T' (0, 0) z3, hz0]
      simpa using hj
    have hone : ∀ u ∈ [g.hdr id2], u.oneCell' = true := fun u hu' => by rw [List.mem_singleton.1 hu']; exact r.hv id2
    have key : ∃ v' w', (Builtin.append_ #[t, t] o.type #[g.hdr id, g.hdr z]).run P w = .ok v' w' ∧ w'.ownsRow 0 E1 1 v' (xss.length + 1) (cur0.toList.take xss.length ++ [g.hdr id2]) ∧ w.grownBy w' (some (g.blk id)) ∧
        (∀ k, v'.ownBlock = some k → (w.heap.size ≤ k ∧ k < w'.heap.size) ∨ k = g.blk id) := by
      rw [m2, z2]
      by_cases hroom : xss.length + 1 ≤ c0
      · obtain ⟨w', a1, a2, a3⟩ := run_append_fits (P := P) w 0 t o.type E1 i 1 hu q1 hi1 (g.blk id) xss.length c0 _ hown ⟨g.blk z, 0, none⟩ 1 zc [g.hdr id2] rfl hsrc hone hroom
        exact ⟨_, w', a1, a2, a3, fun k hk => by simp [Value.ownBlock] at hk; exact .inr hk.symm⟩
      · have holds : ∀ j u, (cur0.toList.take xss.length)[j]? = some u → w.cell? ((⟨g.blk id, 0, none⟩ : Addr).add j) = some u := hown.cells (g := g.blk id) rfl
        have hr := run_append_grow (P := P) w t o.type E1 i zz hu q1 q6 ⟨g.blk id, 0, none⟩ xss.length c0 (cur0.toList.take xss.length) (by rw [hi1]; exact hown.1) holds ⟨g.blk z, 0, none⟩ 1 zc [g.hdr id2] (by rw [hi1]; rfl) hsrc (by omega) (by simp only [maxLen] at h63; omega) (by rw [q5]; exact growslice_fits (by omega) hby)
        have hge := grownCap_ge w (xss.length + 1) c0 E1
        have hcm := grownCap_le_maxLen w (xss.length + 1) c0 E1 h63
        have hzs : zz.cells.size = 1 := by
          have := RepD.len (RepD.of_flat (w := w) (S := g.S) _ _ q7)
          rw [← h1]; simpa [q10] using this
        refine ⟨_, _, hr, ⟨by simp [hown.1], .inr ⟨w.heap.size, _, _, rfl, Nat.zero_le _, heap_alloc_new w.drew _, hge, hcm, ?_, ?_⟩⟩, ⟨rfl, rfl, rfl, by simp, fun k hk _ => heap_alloc_old w.drew _ k hk⟩, fun k hk => by simp [Value.ownBlock] at hk; subst hk; exact .inl ⟨Nat.le_refl _, by simp⟩⟩
        · have hl := hown.1
          simp only [Array.size_append, List.size_toArray, size_zeroCells, hzs, hl, List.length_singleton, Nat.mul_one]
          omega
        · have hl := hown.1
          simp only [Array.toList_append, List.append_assoc]
          rw [← List.append_assoc, Nat.mul_one]
          exact List.take_left' (by rw [List.length_append, hl]; simp)
    obtain ⟨v', w', k1, k2, k3, k4⟩ := key
    unfold Oper.wp
    have hrun : (execOp a.eval o).run P w = .ok (.value v') w' := by
      simp [execOp, ho, resolve, invoke, builtin, hevx, hevy, k1]
    rw [hrun, Oper.upon_value, hd]
    rcases k2.2 with ⟨e, e'⟩ | ⟨bb, cap, cur, e, _, hbb, hnc, hcm, hcs, htake⟩
    · exact absurd e' (by omega)
    · rw [Nat.mul_one] at hcs htake
      have hl := hown.1
      rw [Nat.mul_one] at hl
      obtain ⟨g', r2, hh⟩ := r.reownrr (xs := xs) (Nat.lt_of_lt_of_le (hdn d hd) r.nlt) hlid hob' hn' hid2 k3.os k3.tape k3.output k3.size (fun k hk hne => k3.block k hk (fun e => hne (by cases e; rfl))) bb (k4 bb (by rw [e]; rfl)) cap cur cur0 m3 hbb hcs hnc hcm (fun j hj => by
        have h6 : (cur.toList.take (xss.length + 1))[j]? = (cur0.toList.take xss.length ++ [g.hdr id2])[j]? := by rw [htake]
        rw [List.getElem?_append_left (by omega), List.getElem?_take, if_pos (by omega), List.getElem?_take, if_pos hj] at h6
        rw [← Array.getElem?_toList, ← Array.getElem?_toList]; exact h6) (by
        have h6 : (cur.toList.take (xss.length + 1))[xss.length]? = (cur0.toList.take xss.length ++ [g.hdr id2])[xss.length]? := by rw [htake]
        rw [List.getElem?_append_right (by omega), hl, Nat.sub_self, List.getElem?_take, if_pos (by omega)] at h6
        rw [← Array.getElem?_toList]; exact h6)
      exact ⟨g', r2.put (x := .oref d) (by simp only [RepS]; rw [hh, e]) (fun k hk => by simp only [AV.refs] at hk; rw [hk, St.obj_set, if_pos rfl]; simp) (hdn d hd)⟩
  objs := fun q hq => by
    simp only [List.mem_cons, List.not_mem_nil, or_false] at hq
    rcases hq with rfl | rfl
    · exact .inr ⟨rfl, by simp [looks, ho], x, by simp [wr, ho], by rw [hx]; simp [AV.refs]⟩
    · exact .inl ⟨hd, hn⟩
  okk := fun σ' hA ok => by
    have hmy : y ∈ o.op.operands := by simp [ho, Op.operands, Call.operands]
    have hoz' : σ'.obj z = some (.rr T' E sz [xs] [(0, id2)]) := by rw [hA.2.2 (by simp [looks, ho]) y hmy z (by rw [hy]; simp [AV.refs])]; exact hoz
    have hid2 : σ'.obj id2 ≠ none := ok.2.2 z _ _ _ _ _ hoz' (0, id2) (by simp)
    have h1 := Ok_set (Ok_set ok (d := id) (o := .gone) (fun _ _ _ e => by cases e)) (d := d) (o := .rr E1 E sz (xss ++ [xs]) [(xss.length, id2)]) (fun _ _ _ e => by cases e) (fun _ _ _ _ hs' e p hp => by
      cases e
      simp only [List.mem_singleton] at hp
      subst hp
      show (σ'.set id .gone).obj id2 ≠ none
      rw [St.obj_set]; split
      · simp
      · exact hid2)
    rw [hd]
    refine ⟨fun i k hk => ?_, ok_tail (app_obj _ _ _) h1.2⟩
    rw [app_slot] at hk
    rw [app_obj]
    simp only [setAll]
    split at hk
    · simp only [AV.refs] at hk; rw [hk, St.obj_set, if_pos rfl]; simp
    · exact h1.1 i k hk
  near := fun y h => by rw [ho] at h; simp [carry] at h
  made := fun _ k hk => by simp only [AV.refs] at hk; rw [hk]; exact hd
end
section
variable {P : Program} {N : Value → Prop} {T : Tab} {ops : Array Oper} {cf : Oper → Bool} {K : AExit → St → Prop} {o : Oper} {rest : List Oper} {L : List (Nat × AV)} {O : List (Nat × Obj)}
theorem AOps.litrr0 (hT : TabOk P T) {d : Nat} {t : TypeId} {E1 : TypeId} (E : TypeId) (sz : Nat) {te : TE} (ho : o.op = .buildSlice t 0 #[]) (hd : o.dst = some d) (hg : gOn ops L o = true) (hn : lookO O d = none) (hs : slE T t = some (E1, te))
    (k : AOps P ops cf K rest (mkSt ((d, .oref d) :: L) ((d, .rr E1 E sz [] []) :: O))) : AOps P ops cf K (o :: rest) (mkSt L O) :=
  AOps.eff hg (Step.litrr0 hT ho hd hn hs) (by rw [hd]; exact k)
theorem AOps.litrr1 (hT : TabOk P T) {d y id : Nat} {t : TypeId} {E1 : TypeId} (E : TypeId) (sz : Nat) {te : TE} (xs : List DV) (ho : o.op = .buildSlice t 1 #[(0, .tmp y)]) (hd : o.dst = some d) (hg : gOn ops L o = true) (hn : lookO O d = none) (hs : slE T t = some (E1, te)) (h1 : Nat.beq te.size 1 = true)
    (hy : look L y = .oref id) (hne : Nat.beq id d = false) (k : AOps P ops cf K rest (mkSt ((d, .oref d) :: L) ((d, .rr E1 E sz [xs] [(0, id)]) :: O))) : AOps P ops cf K (o :: rest) (mkSt L O) :=
  AOps.eff hg (Step.litrr1 hT ho hd hn hs (Nat.eq_of_beq_eq_true h1) hy (fun e => by subst e; simp at hne)) (by rw [hd]; exact k)
theorem app1c {α β : Type} {e : α → β} {xs : List α} {y : α} (h : xs.length + [y].length ≤ maxLen) : (xs.map e).length + 1 ≤ maxLen := by rw [List.length_map]; exact h
theorem app2c {α β : Type} {e : α → β} {xs : List α} {y : α} {b : Nat} (h : (xs.length + [y].length) * b ≤ 140737488355328) : ((xs.map e).length + 1) * b ≤ 140737488355328 := by rw [List.length_map]; exact h
theorem app3c {α β : Type} {e : α → β} {xs zs : List α} {y : α} (h : xs ++ [y] = zs) : xs.map e ++ [e y] = zs.map e := by rw [← h, List.map_append]; rfl
theorem AOps.appendrr (hT : TabOk P T) {d id z id2 : Nat} {t E1 E T' : TypeId} {sz : Nat} {te : TE} {x y : Operand} {xss zss : List (List DV)} {xs : List DV}
    (ho : o.op = .call { callee := .builtin .append, args := #[x, y], argTypes := #[t, t] }) (hcf : cf o = true) (hd : o.dst = some d) (hg : gOn ops L o = true) (hn : lookO O d = none) (hs : slE T t = some (E1, te)) (h1 : Nat.beq te.size 1 = true)
    (hx : ev (mkSt L O) x = .oref id) (hob : lookO O id = some (.rr E1 E sz xss [])) (hy : ev (mkSt L O) y = .oref z) (hoz : lookO O z = some (.rr T' E sz [xs] [(0, id2)])) {b : Nat} (hbb : Nat.beq te.bytes b = true) (h63 : xss.length + 1 ≤ maxLen) (hby : (xss.length + 1) * b ≤ 140737488355328)
    (ez : xss ++ [xs] = zss) {m : Nat} (em : xss.length = m) (k : AOps P ops cf K rest (mkSt ((d, .oref d) :: L) ((d, .rr E1 E sz zss [(m, id2)]) :: (id, .gone) :: O))) (hlid : id < 1000000 := by decide) : AOps P ops cf K (o :: rest) (mkSt L O) := by
  have hbb' := Nat.eq_of_beq_eq_true hbb
  subst ez em hbb'
  refine AOps.eff hg (e := ⟨.oref d, [(id, .gone), (d, .rr E1 E sz (xss ++ [xs]) [(xss.length, id2)])]⟩) ?_ (by rw [hd]; exact k)
  rw [hcf]
  exact Step.appendrr hT ho hd hn hs (Nat.eq_of_beq_eq_true h1) hx hob hy hoz h63 hby hlid
end
end Go.Sim
