/- What is proved: the statement that products grow with intervals, and that the unit matrix changes nothing, holds of all arguments. -/
import Derived.Test.YtlglkgineclggaaZGGrowM
import Derived.Test.YtlglkgineclggaaZGLawLP
namespace Go.Sim.Ytlglkgineclggaa
open Go.RowKit Go.Proofs Go.Proofs.Try
/-! ### What is asked of intervals -/
theorem refinside_ev {x y : GIval} (hx : okI x) (hy : okI y) (h : SubI x y) : Ev_ref02_Inside x y true := by
  refine walk_ref02_Inside ?_
  unfold W_ref02_Inside
  refine Call.mk (refnone_ev hx) ?_
  unfold noneB
  by_cases r : RIp x
  · obtain ⟨ry, h1, h2⟩ := h r
    rw [ge_b hx.1 hy.1, le_b hx.2 hy.2]
    refine Br.f (by simp [r]) (Call.mk (refnone_ev hy) (Br.t (by unfold noneB; simp [ry]) (Br.dT ⟨r.1, ry.1, h1⟩ ?_)))
    show decide _ = true
    rw [decide_eq_true_iff]; exact ⟨r.2.1, ry.2.1, h2⟩
  · exact Br.t (by simp [r]) rfl
theorem refadd_any {a b : Nat} (ha : NumB a) (hb : NumB b) : ∃ c, c < 18446744073709551616 ∧ Ev_ref01_Add a b 0 c := by
  by_cases h : Apart a b
  · exact ⟨_, (ha.add hb 0).l, refadd_evX 0 ha hb h⟩
  · unfold Apart at h
    have fa : ¬ isF a := fun k => h (.inl k)
    have fb : ¬ isF b := fun k => h (.inr (.inl k))
    have hne : a ≠ b := fun k => h (.inr (.inr k))
    refine ⟨9221120237041090561, by decide, walk_ref01_Add ?_⟩
    unfold W_ref01_Add
    refine ⟨fun x => x = false, Call.mk (isnum_ev ha.l) (Br.f (by simp [ha.n]) (Call.mk (isnum_ev hb.l) (by simp [hb.n]))), fun x hx => ?_⟩
    subst hx
    refine Br.f rfl ⟨fun x => x = false, Call.mk (finite_ev ha.l) (Br.dF fa rfl), fun x hx => ?_⟩
    subst hx
    refine Br.f rfl (Call.mk (finite_ev ha.l) (Br.dF fa ?_))
    rw [fmt64, order_eqv ha.l hb.l]
    exact Br.dF (fun k => hne (fI_inj ha.z hb.z k.2.2)) (Call.mk (finite_ev hb.l) (Br.dF fb (Call.mk nan_ev rfl)))
theorem mid_ev {x : GIval} (hx : okI x) : ∃ c, c < 18446744073709551616 ∧ Ev_ref02_Mid x c := by
  suffices hs : ∃ c, c < 18446744073709551616 ∧ W_ref02_Mid x (fun r => r = c) by
    obtain ⟨c, h1, h2⟩ := hs; exact ⟨c, h1, walk_ref02_Mid h2⟩
  unfold W_ref02_Mid
  by_cases r : RIp x
  · have lx := RIp.lo hx r; have ux := RIp.hi hx r
    -- the ends, made finite
    obtain ⟨l, hl, el⟩ : ∃ l, NumB l ∧ (if fI x.Lo = -9218868437227405312 then 18442240474082181119 else x.Lo) = l := ⟨if fI x.Lo = -9218868437227405312 then 18442240474082181119 else x.Lo, (by split; exact num_min; exact lx), rfl⟩
    obtain ⟨u, hu, eu⟩ : ∃ u, NumB u ∧ (if fI x.Hi = 9218868437227405312 then 9218868437227405311 else x.Hi) = u := ⟨if fI x.Hi = 9218868437227405312 then 9218868437227405311 else x.Hi, (by split; exact num_max; exact ux), rfl⟩
    obtain ⟨c, hc, hce⟩ := refadd_any (NumB.mul l 4602678819172646912 0) (NumB.mul u 4602678819172646912 0)
    have nh : NumB 4602678819172646912 := ⟨by decide, by decide, by decide⟩
    have body : ∃ d, d < 18446744073709551616 ∧ (Br (FloatKind.f64.format.order c l == some .lt) (l = d) (Br (FloatKind.f64.format.order c u == some .gt) (u = d) (c = d))) := by
      cases h1 : (FloatKind.f64.format.order c l == some .lt) with
      | true => exact ⟨l, hl.l, Br.t rfl rfl⟩
      | false =>
        cases h2 : (FloatKind.f64.format.order c u == some .gt) with
        | true => exact ⟨u, hu.l, Br.f rfl (Br.t rfl rfl)⟩
        | false => exact ⟨c, hc, Br.f rfl (Br.f rfl rfl)⟩
    obtain ⟨d, hd, hbody⟩ := body
    refine ⟨d, hd, Call.mk (refnone_ev hx) (Br.f (by unfold noneB; simp [r]) (Call.mk refinfm_ev ⟨fun y => y = ⟨l, x.Hi⟩, ?_, fun y hy => ?_⟩))⟩
    · rw [eq_ninf hx.1]
      refine Br.d (fun h => ?_) (fun h => ?_)
      · rw [if_pos h] at el; subst el; rfl
      · rw [if_neg h] at el; subst el; rfl
    · subst hy
      refine Call.mk refinf1_ev ⟨fun y => y = ⟨l, u⟩, ?_, fun y hy => ?_⟩
      · rw [eq_inf hx.2]
        refine Br.d (fun h => ?_) (fun h => ?_)
        · rw [if_pos h] at eu; subst eu; rfl
        · rw [if_neg h] at eu; subst eu; rfl
      · subst hy
        exact Call.mk (refmul_evX 0 hl nh) (Call.mk (refmul_evX 0 hu nh) (Call.mk hce hbody))
  · exact ⟨0, by decide, Call.mk (refnone_ev hx) (Br.t (by unfold noneB; simp [r]) rfl)⟩
/-- A point of an interval, or the interval itself. -/
structure PtOf (p x : GIval) : Prop where
  ok : okI p
  rt : rightB x = true → rightB p = true
  sub : SubI p x
theorem fI_clean (b : Nat) : fI (cleanB b) = fI b := by
  unfold cleanB
  split
  · rename_i h
    have := rung_abs b
    have z0 : fI 0 = 0 := by decide
    omega
  · rfl
theorem grow1_ev {x : GIval} (hx : okI x) : ∃ p, Ev_law04_LinGrows_1 x p ∧ PtOf p x := by
  obtain ⟨c, hc, hce⟩ := mid_ev hx
  have self : PtOf x x := ⟨hx, id, SubI.refl x⟩
  by_cases r : RIp x
  · by_cases hcond : (isN c ∧ isN x.Lo ∧ fI x.Lo ≤ fI c) ∧ (isN c ∧ isN x.Hi ∧ fI c ≤ fI x.Hi) ∧ fI c ≠ 9218868437227405312 ∧ fI c ≠ -9218868437227405312
    · -- a point
      have hhas : Ev_ref02_Has x c true := by
        refine walk_ref02_Has ?_
        unfold W_ref02_Has
        refine Call.mk (refnone_ev hx) (Br.t (by unfold noneB; simp [r]) ?_)
        rw [ge_b hc hx.1, le_b hc hx.2]
        refine Br.dT hcond.1 (Br.dT hcond.2.1 (Call.mk refinf1_ev ?_))
        rw [bne, eq_inf hc]
        refine Br.t (by simp [hcond.2.2.1]) (Call.mk refinfm_ev ?_)
        rw [bne, eq_ninf hc, decide_eq_false hcond.2.2.2]; rfl
      have hmk := refmake_ev hc hc
      have n1 := hcond.1.1
      unfold isN at n1
      have rc : RIp ⟨cleanB c, cleanB c⟩ := by
        refine ⟨?_, ?_, Int.le_refl _, ?_, ?_, ?_, ?_⟩
        · show isN (cleanB c); unfold isN; rw [fI_clean]; exact n1
        · show isN (cleanB c); unfold isN; rw [fI_clean]; exact n1
        · show fI (cleanB c) < _; rw [fI_clean]; have := hcond.2.2.1; omega
        · show _ < fI (cleanB c); rw [fI_clean]; have := hcond.2.2.2; omega
        · show cleanB c ≠ _; unfold cleanB; split
          · decide
          · rename_i h; intro e; subst e; exact h rfl
        · show cleanB c ≠ _; unfold cleanB; split
          · decide
          · rename_i h; intro e; subst e; exact h rfl
      have em : makeI c c = ⟨cleanB c, cleanB c⟩ := by unfold makeI; rw [if_pos (by unfold rightB; rw [decide_eq_true (.inr rc)])]
      rw [em] at hmk
      refine ⟨⟨cleanB c, cleanB c⟩, walk_law04_LinGrows_1 ?_, ⟨⟨cleanB_lt hc, cleanB_lt hc⟩, fun _ => by unfold rightB; rw [decide_eq_true (.inr rc)], fun _ => ⟨r, ?_, ?_⟩⟩⟩
      · unfold W_law04_LinGrows_1
        exact Call.mk hce (Call.mk (refnone_ev hx) (Br.f (by unfold noneB; simp [r]) (Call.mk hhas (Br.f rfl (Call.mk hmk rfl)))))
      · show fI x.Lo ≤ fI (cleanB c); rw [fI_clean]; exact hcond.1.2.2
      · show fI (cleanB c) ≤ fI x.Hi; rw [fI_clean]; exact hcond.2.1.2.2
    · -- not in it
      have hhas : Ev_ref02_Has x c false := by
        refine walk_ref02_Has ?_
        unfold W_ref02_Has
        refine Call.mk (refnone_ev hx) (Br.t (by unfold noneB; simp [r]) ?_)
        rw [ge_b hc hx.1, le_b hc hx.2]
        refine Br.d (fun h1 => Br.d (fun h2 => Call.mk refinf1_ev ?_) (fun _ => rfl)) (fun _ => rfl)
        rw [bne, eq_inf hc]
        by_cases h3 : fI c = 9218868437227405312
        · exact Br.f (by simp [h3]) rfl
        · refine Br.t (by simp [h3]) (Call.mk refinfm_ev ?_)
          rw [bne, eq_ninf hc]
          by_cases h4 : fI c = -9218868437227405312
          · rw [decide_eq_true h4]; rfl
          · exact absurd ⟨h1, h2, h3, h4⟩ hcond
      refine ⟨x, walk_law04_LinGrows_1 ?_, self⟩
      unfold W_law04_LinGrows_1
      exact Call.mk hce (Call.mk (refnone_ev hx) (Br.f (by unfold noneB; simp [r]) (Call.mk hhas (Br.t rfl rfl))))
  · refine ⟨x, walk_law04_LinGrows_1 ?_, self⟩
    unfold W_law04_LinGrows_1
    exact Call.mk hce (Call.mk (refnone_ev hx) (Br.t (by unfold noneB; simp [r]) rfl))
theorem hollow_ev {m : List (List GIval)} {j : Nat} (hm : okM m) (lm : m.length ≤ 9223372036854775807) (hl : ∀ r ∈ m, j < r.length) : Ev_law04_hollow m (j : Int) (m.any fun r => noneB (r.getD j EMP)) := by
  refine walk_law04_hollow ?_
  unfold W_law04_hollow
  refine Loop1.up m.length (fun i => Upto m (fun r => noneB (r.getD j EMP) = false) i) Upto.zero ?_
  intro i k hi hP hk
  refine Br.d (fun hlt => At.nat (by omega) fun r hr => At.nat (hl r (List.mem_of_getElem? hr)) fun x hx => ?_) (fun hge => ?_)
  · have hx1 := (hm r (List.mem_of_getElem? hr)).1 x (List.mem_of_getElem? hx)
    refine Call.mk (refnone_ev hx1) ?_
    cases hn : noneB x with
    | true =>
      refine Br.t rfl ?_
      show true = List.any _ _
      symm; rw [List.any_eq_true]; exact ⟨r, List.mem_of_getElem? hr, by rw [getD_at' hx, hn]⟩
    | false => exact Br.f rfl (Let.as _ (wi1 (by omega)) (hk (by omega) (hP.succ hr (by rw [getD_at' hx, hn]))))
  · show false = List.any _ _
    symm; rw [List.any_eq_false]
    intro r hr
    rw [hP.all (by omega) r hr]; decide
/-! ### Sums of products grow -/
theorem dotF_sub {pt : GIval → GIval} (hpt : ∀ x, okI x → PtOf (pt x) x) : ∀ (l : List (GIval × GIval)) (s' s : GIval), (∀ q ∈ l, okI q.1 ∧ okI q.2) → okI s' → okI s → SubI s' s →
    SubI ((l.map fun q => (pt q.1, pt q.2)).foldl dotF s') (l.foldl dotF s)
  | [], _, _, _, _, _, h => h
  | q :: l, s', s, hl, h1, h2, h => by
    have hq := hl q (List.mem_cons_self ..)
    have p1 := hpt q.1 hq.1
    have p2 := hpt q.2 hq.2
    exact dotF_sub hpt l _ _ (fun q hq => hl q (List.mem_cons_of_mem _ hq)) (ok_add h1 ok_mul) (ok_add h2 ok_mul) (add_sub h1 ok_mul h2 ok_mul h (mul_sub p1.ok p2.ok hq.1 hq.2 p1.sub p2.sub))
theorem dot_sub {pt : GIval → GIval} (hpt : ∀ x, okI x → PtOf (pt x) x) {r v : List GIval} (hr : okL r) (hv : okL v) : SubI (dotI (r.map pt) (v.map pt)) (dotI r v) := by
  unfold dotI
  rw [List.zip_map]
  exact dotF_sub hpt _ _ _ (fun q hq => ⟨hr _ (List.of_mem_zip hq).1, hv _ (List.of_mem_zip hq).2⟩) ok_zero ok_zero (SubI.refl _)
theorem vec_pt {pt : GIval → GIval} (hpt : ∀ x, okI x → PtOf (pt x) x) {v : List GIval} (hv : okL v) (h : vecB v = true) : vecB (v.map pt) = true := by
  have ht := vecB_true h
  unfold vecB
  rw [Bool.and_eq_true, Bool.and_eq_true, decide_eq_true_iff, decide_eq_true_iff, List.all_eq_true, List.length_map]
  refine ⟨fun x hx => ?_, ht.2⟩
  obtain ⟨y, hy, rfl⟩ := List.mem_map.1 hx
  exact (hpt y (hv y hy)).rt (ht.1 y hy)
theorem ok_map {pt : GIval → GIval} (hpt : ∀ x, okI x → PtOf (pt x) x) {v : List GIval} (hv : okL v) : okL (v.map pt) := fun x hx => by
  obtain ⟨y, hy, rfl⟩ := List.mem_map.1 hx
  exact (hpt y (hv y hy)).ok
theorem headD_map {α β : Type} (f : α → β) (m : List (List α)) : (m.map fun r => r.map f).headD [] = (m.headD []).map f := by cases m <;> rfl
theorem mat_pt {pt : GIval → GIval} (hpt : ∀ x, okI x → PtOf (pt x) x) {m : List (List GIval)} (hm : okM m) (h : matB m = true) : matB (m.map fun r => r.map pt) = true := by
  have ht := matB_true h
  unfold matB
  rw [headD_map, Bool.and_eq_true, Bool.and_eq_true, decide_eq_true_iff, decide_eq_true_iff, List.all_eq_true]
  refine ⟨fun x hx => ?_, by rw [List.length_map]; exact ht.2⟩
  obtain ⟨r, hr, rfl⟩ := List.mem_map.1 hx
  have hr1 := ht.1 r hr
  rw [Bool.and_eq_true, decide_eq_true_iff, List.length_map, List.length_map]
  exact ⟨vec_pt hpt (hm r hr).1 hr1.1, hr1.2⟩
/-! ### The unit matrix -/
theorem vec_one {n i : Nat} (h1 : 1 ≤ n) (h2 : n ≤ 24) : vecB (((List.range n).map (oneV i)).map ptI) = true := by
  unfold vecB
  rw [Bool.and_eq_true, Bool.and_eq_true, decide_eq_true_iff, decide_eq_true_iff, List.all_eq_true]
  refine ⟨fun x hx => ?_, by simp; omega, by simp; omega⟩
  rw [List.map_map] at hx
  obtain ⟨j, _, rfl⟩ := List.mem_map.1 hx
  show rightB (ptI (oneV i j)) = true
  unfold oneV
  split
  · rw [pt_one]; decide
  · rw [pt_zero]; decide
theorem one_head {n : Nat} (h : 1 ≤ n) : ((oneI n).headD []).length = n := by
  unfold oneI ptsI
  rw [headD_map, List.length_map, unit_head h]
theorem one_len (n : Nat) : (oneI n).length = n := by unfold oneI ptsI; rw [List.length_map, unit_len]
theorem mat_one {n : Nat} (h1 : 1 ≤ n) (h2 : n ≤ 24) : matB (oneI n) = true := by
  unfold matB
  rw [one_head h1, one_len, Bool.and_eq_true, Bool.and_eq_true, decide_eq_true_iff, decide_eq_true_iff, List.all_eq_true]
  refine ⟨fun r hr => ?_, h1, h2⟩
  unfold oneI ptsI unitL at hr
  rw [List.map_map] at hr
  obtain ⟨i, _, rfl⟩ := List.mem_map.1 hr
  rw [Bool.and_eq_true, decide_eq_true_iff]
  exact ⟨vec_one h1 h2, by simp⟩
/-- A row of the unit matrix picks one. -/
theorem pick {i : Nat} : ∀ (b : List GIval) (k : Nat) (s : GIval), okL b → (∀ x ∈ b, RIp x) → okI s → RIp s → (i < k ∨ s = ZI) →
    (((List.range' k b.length).map (oneV i)).map ptI |>.zip b).foldl dotF s = if k ≤ i then (if h : i - k < b.length then b[i - k] else s) else s
  | [], k, s, _, _, _, _, _ => by simp
  | x :: b, k, s, hb, hr, hs, rs, hz => by
    have hx := hb x (List.mem_cons_self ..)
    have rx := hr x (List.mem_cons_self ..)
    have hb' : okL b := fun y hy => hb y (List.mem_cons_of_mem _ hy)
    have hr' : ∀ y ∈ b, RIp y := fun y hy => hr y (List.mem_cons_of_mem _ hy)
    simp only [List.length_cons, List.range'_succ, List.map_cons, List.zip_cons_cons, List.foldl_cons]
    by_cases hik : i = k
    · subst hik
      have e : dotF s (ptI (oneV i i), x) = x := by
        have hs0 : s = ZI := hz.resolve_left (by omega)
        show addI s (mulI (ptI (oneV i i)) x) = x
        unfold oneV
        rw [if_pos rfl, pt_one, mul_oneI hx rx, hs0, (add_zeroI hx rx).1]
      rw [e, pick b (i + 1) x hb' hr' hx rx (.inl (by omega))]
      simp
      intro h; omega
    · have e : dotF s (ptI (oneV i k), x) = s := by
        show addI s (mulI (ptI (oneV i k)) x) = s
        unfold oneV
        rw [if_neg hik, pt_zero, mul_zeroI rx, (add_zeroI hs rs).2]
      rw [e, pick b (k + 1) s hb' hr' hs rs (hz.imp (by omega) id)]
      by_cases hlt : k ≤ i
      · rw [if_pos hlt, if_pos (by omega)]
        have e2 : i - k = (i - (k + 1)) + 1 := by omega
        simp only [e2, List.getElem_cons_succ, Nat.add_lt_add_iff_right]
      · rw [if_neg hlt, if_neg (by omega)]
theorem pick_row {i n : Nat} {b : List GIval} (hb : okL b) (hr : ∀ x ∈ b, RIp x) (hn : b.length = n) (hi : i < n) {x : GIval} (hx : b[i]? = some x) : dotI (((List.range n).map (oneV i)).map ptI) b = x := by
  have h := pick (i := i) b 0 ZI hb hr ok_ZI r_zero (.inr rfl)
  subst hn
  obtain ⟨hl, e⟩ := List.getElem?_eq_some_iff.1 hx
  rw [if_pos (Nat.zero_le _), dif_pos (by omega)] at h
  simp only [Nat.sub_zero] at h
  rw [e] at h
  unfold dotI
  rw [List.range_eq_range', show makeI 0 0 = ZI from pt_zero]
  exact h
theorem mag_zero : magI ZI = 0 := by decide
theorem mag_one : magI OI = 4607182418800017408 := by decide
theorem sum_one {i : Nat} : ∀ (n k : Nat) (s : Nat), (s = 0 ∨ (s = 4607182418800017408 ∧ i < k)) → (((List.range' k n).map (oneV i)).map ptI).foldl sumF s = if s = 0 ∧ ¬ (k ≤ i ∧ i < k + n) then 0 else 4607182418800017408
  | 0, k, s, h => by
    simp only [List.range'_zero, List.map_nil, List.foldl_nil]
    rcases h with rfl | ⟨rfl, _⟩
    · rw [if_pos ⟨rfl, by omega⟩]
    · rw [if_neg (fun h => by have := h.1; omega)]
  | n + 1, k, s, h => by
    have n1 : NumB 4607182418800017408 := ⟨by decide, by decide, by decide⟩
    simp only [List.range'_succ, List.map_cons, List.foldl_cons]
    by_cases hik : i = k
    · subst hik
      have hs0 : s = 0 := by rcases h with h | ⟨_, h⟩ <;> omega
      subst hs0
      have e : sumF 0 (ptI (oneV i i)) = 4607182418800017408 := by
        unfold sumF oneV
        rw [if_pos rfl, pt_one, mag_one, (addX_zero n1 (.inr rfl)).1]
      rw [e, sum_one n (i + 1) _ (.inr ⟨rfl, by omega⟩), if_neg (fun h => by have := h.1; omega), if_neg (fun h => h.2 ⟨by omega, by omega⟩)]
    · have e : sumF s (ptI (oneV i k)) = s := by
        unfold sumF oneV
        rw [if_neg hik, pt_zero, mag_zero]
        rcases h with rfl | ⟨rfl, _⟩
        · exact (addX_zero NumB.zero (.inr rfl)).1
        · exact (addX_zero n1 (.inr rfl)).2
      rw [e, sum_one n (k + 1) s (h.imp id (fun h => ⟨h.1, by omega⟩))]
      by_cases hs0 : s = 0
      · by_cases hc : k ≤ i ∧ i < k + (n + 1)
        · rw [if_neg (fun h => h.2 ⟨by omega, by omega⟩), if_neg (fun h => h.2 hc)]
        · rw [if_pos ⟨hs0, by omega⟩, if_pos ⟨hs0, hc⟩]
      · rw [if_neg (fun h => hs0 h.1), if_neg (fun h => hs0 h.1)]
theorem norm_one {n : Nat} (h1 : 1 ≤ n) : normI (oneI n) = 4607182418800017408 := by
  have n1 : NumB 4607182418800017408 := ⟨by decide, by decide, by decide⟩
  have hrow : ∀ i, i < n → sumN (((List.range n).map (oneV i)).map ptI) = 4607182418800017408 := fun i hi => by
    unfold sumN
    rw [List.range_eq_range', sum_one n 0 0 (.inl rfl), if_neg (fun h => h.2 ⟨by omega, by omega⟩)]
  have key : ∀ (l : List Nat) (t : Nat), (∀ i ∈ l, i < n) → (t = 0 ∨ t = 4607182418800017408) → (l.map fun i => ((List.range n).map (oneV i)).map ptI).foldl maxF t = if l = [] then t else 4607182418800017408 := by
    intro l
    induction l with
    | nil => intro t _ _; rfl
    | cons i l ih =>
      intro t hl ht
      simp only [List.map_cons, List.foldl_cons]
      have e : maxF t (((List.range n).map (oneV i)).map ptI) = 4607182418800017408 := by
        unfold maxF
        rw [hrow i (hl i (List.mem_cons_self ..))]
        rcases ht with rfl | rfl <;> decide
      rw [e, ih _ (fun j hj => hl j (List.mem_cons_of_mem _ hj)) (.inr rfl), if_neg (show ¬ (i :: l = []) from List.cons_ne_nil _ _)]
      split <;> rfl
  unfold normI oneI ptsI unitL
  rw [List.map_map]
  have := key (List.range n) 0 (fun i hi => List.mem_range.1 hi) (.inl rfl)
  rw [if_neg (by intro e; have := congrArg List.length e; simp at this; omega)] at this
  exact this
/-! ### The statement -/
theorem mm_at {a b : List (List GIval)} {i j : Nat} {r : List GIval} (hr : a[i]? = some r) (hj : j < (b.headD []).length) : ∃ s, (mmI a b)[i]? = some s ∧ s[j]? = some (dotI r (colI b j)) := by
  refine ⟨rowI b (b.headD []).length r, ?_, ?_⟩
  · unfold mmI; rw [List.getElem?_map, hr]; rfl
  · unfold rowI; rw [List.getElem?_map, List.getElem?_range hj]; rfl
theorem linGrows_ev (m : List (List GIval)) (v : List GIval) (h1 : m.length ≤ maxLen ∧ ∀ r ∈ m, (r.length ≤ maxLen ∧ ∀ z ∈ r, GIval.ok z)) (h2 : v.length ≤ maxLen ∧ ∀ z ∈ v, GIval.ok z) : Ev_law04_LinGrows m v true := by
  obtain ⟨hm, lm⟩ := okM_of h1
  obtain ⟨hv, lv⟩ := okL_of h2
  obtain ⟨pt, hpt0⟩ := Classical.axiomOfChoice (r := fun x p => okI x → Ev_law04_LinGrows_1 x p ∧ PtOf p x) (fun x => by
    by_cases hx : okI x
    · obtain ⟨p, hp⟩ := grow1_ev hx; exact ⟨p, fun _ => hp⟩
    · exact ⟨x, fun h => absurd h hx⟩)
  have hpt : ∀ x, okI x → PtOf (pt x) x := fun x hx => (hpt0 x hx).2
  refine walk_law04_LinGrows ?_
  unfold W_law04_LinGrows
  refine Call.mk (refmatrix_ev hm lm) ?_
  cases hmB : matB m with
  | false => exact Br.t rfl rfl
  | true =>
  have hmt := matB_true hmB
  refine Br.f rfl (Call.mk (refvector_ev hv lv) ?_)
  cases hvB : vecB v with
  | false => exact Br.t rfl rfl
  | true =>
  have hvt := vecB_true hvB
  refine Br.f rfl (At.nat (i := 0) (by omega) fun x0 hx0 => ?_)
  have he0 := headD_of hx0
  rw [he0] at hmt
  by_cases hlen0 : x0.length ≠ v.length
  · exact Br.t (by simp; omega) rfl
  have hlen : x0.length = v.length := by omega
  have hrl : ∀ r ∈ m, r.length = v.length := fun r hr => by rw [(hmt.1 r hr).2, hlen]
  refine Br.f (by simp [hlen]) (Loop2.up m.length (fun i out => out = (m.take i).map fun r => r.map pt) rfl ?_)
  rintro i out k hi rfl hk
  refine Br.d (fun hlt => At.nat (by omega) fun r hr => ?_) (fun hge => ?_)
  · have hr1 := hm r (List.mem_of_getElem? hr)
    have hr2 := hrl r (List.mem_of_getElem? hr)
    refine Loop2.up r.length (fun j out => out = (r.take j).map pt) rfl ?_
    rintro j out2 k2 hj rfl hk2
    refine Br.d (fun hlt2 => At.nat (by omega) fun x hx => ?_) (fun hge2 => ?_)
    · refine Call.mk (call_law04_LinGrows_1 (hpt0 x (hr1.1 x (List.mem_of_getElem? hx))).1) (App.le (by omega) (by simp; omega) (Let.as _ (wi1 (by omega)) (hk2 _ (by omega) ?_)))
      rw [take_snoc hx, List.map_append]; rfl
    · refine App.le (by omega) (by simp; omega) (Let.as _ (wi1 (by omega)) (hk _ (by omega) ?_))
      rw [take_snoc hr, List.map_append, List.take_of_length_le (l := r) (by omega)]; rfl
  have hthin : (m.take i).map (fun r => r.map pt) = m.map (fun r => r.map pt) := by rw [List.take_of_length_le (by omega)]
  rw [hthin]
  refine Loop2.up v.length (fun j out => out = (v.take j).map pt) rfl ?_
  rintro j out2 k2 hj rfl hk2
  refine Br.d (fun hlt2 => At.nat (by omega) fun x hx => ?_) (fun hge2 => ?_)
  · refine Call.mk (call_law04_LinGrows_1 (hpt0 x (hv x (List.mem_of_getElem? hx))).1) (App.le (by omega) (by simp; omega) (Let.as _ (wi1 (by omega)) (hk2 _ (by omega) ?_)))
    rw [take_snoc hx, List.map_append]; rfl
  have hw : (v.take j).map pt = v.map pt := by rw [List.take_of_length_le (by omega)]
  rw [hw]
  clear hk hk2 hthin hw
  -- what the program's functions yield
  have hm2 : okM (m.map fun r => r.map pt) := fun r hr => by
    obtain ⟨s, hs, rfl⟩ := List.mem_map.1 hr
    exact ⟨ok_map hpt (hm s hs).1, by rw [List.length_map]; exact (hm s hs).2⟩
  have hv2 : okL (v.map pt) := ok_map hpt hv
  have a1 := apply_ev hm hv lm lv
  rw [if_pos (show appB m v = true by unfold appB; rw [hmB, hvB, he0]; simp [hlen])] at a1
  have a2 := apply_ev hm2 hv2 (by rw [List.length_map]; exact lm) (by rw [List.length_map]; exact lv)
  rw [if_pos (show appB (m.map fun r => r.map pt) (v.map pt) = true by unfold appB; rw [mat_pt hpt hm hmB, vec_pt hpt hv hvB, headD_map, he0]; simp [hlen])] at a2
  have a3 := lone_ev (n := ((m.length : Nat) : Int))
  rw [if_pos (by omega), Int.toNat_natCast] at a3
  have ho : okM (oneI m.length) := ok_pts (ok_unit _ (by omega))
  have hoB := mat_one (n := m.length) (by omega) (by omega)
  have a4 := linmul_ev ho hm (by rw [one_len]; exact lm) lm
  rw [if_pos (show mmB (oneI m.length) m = true by unfold mmB; rw [hoB, hmB, one_head (by omega)]; simp)] at a4
  have a5 := norm_ev ho (by rw [one_len]; exact lm)
  rw [if_pos hoB, norm_one (by omega)] at a5
  have n1 : NumB 4607182418800017408 := ⟨by decide, by decide, by decide⟩
  refine Call.mk a1 (Call.mk a2 (Call.mk a3 (Call.mk a4 (Call.mk a3 (Call.mk a5 ?_)))))
  refine Br.f (by simp) (Br.f (by simp) (Br.f (by simp) (Br.f (by simp) (Br.f (by rw [bne, eq_self n1]; rfl) (Br.f (by simp [appI]) (Br.f (by simp [mmI, one_len]) ?_))))))
  have hal : (appI m v).length = m.length := by unfold appI; rw [List.length_map]
  rw [hal]
  refine Loop1.up m.length (fun _ => True) trivial ?_
  intro i2 k3 hi2 _ hk3
  refine Br.d (fun hlt3 => ?_) (fun _ => rfl)
  obtain ⟨r, hr⟩ : ∃ r, m[i2]? = some r := ⟨_, List.getElem?_eq_getElem (by omega)⟩
  have hr1 := hm r (List.mem_of_getElem? hr)
  have hr2 := hrl r (List.mem_of_getElem? hr)
  have hrv := (hmt.1 r (List.mem_of_getElem? hr)).1
  refine At.nat (by simp [appI]; omega) fun y hy => At.nat (by rw [hal]; omega) fun x hx => ?_
  unfold appI at hx hy
  rw [List.getElem?_map, hr] at hx
  rw [List.getElem?_map, List.getElem?_map, hr] at hy
  simp only [Option.map_some, Option.some.injEq] at hx hy
  subst hx hy
  refine Call.mk (refinside_ev (ok_dot _ _) (ok_dot _ _) (dot_sub hpt hr1.1 hv)) (Br.f rfl (At.nat (by omega) fun r' hr' => ?_))
  rw [hr] at hr'
  cases hr'
  refine Loop1.up r.length (fun _ => True) trivial ?_
  intro j2 k4 hj2 _ hk4
  refine Br.d (fun hlt4 => At.nat (by omega) fun r' hr' => ?_) (fun _ => Let.as _ (wi1 (by omega)) (hk3 (by omega) trivial))
  rw [hr] at hr'
  cases hr'
  refine Call.mk (refvector_ev hr1.1 hr1.2) ?_
  rw [hrv]
  refine Br.t rfl (Call.mk (hollow_ev hm lm (fun s hs => by rw [hrl s hs]; omega)) ?_)
  cases hh : m.any (fun r => noneB (r.getD j2 EMP)) with
  | true => exact Br.f rfl (Let.as _ (wi1 (by omega)) (hk4 (by omega) trivial))
  | false =>
    refine Br.t rfl (At.nat (by omega) fun r' hr' => ?_)
    rw [hr] at hr'
    cases hr'
    refine At.nat (by omega) fun x hx => ?_
    have hone : (oneI m.length)[i2]? = some (((List.range m.length).map (oneV i2)).map ptI) := by
      unfold oneI ptsI unitL
      rw [List.map_map, List.getElem?_map, List.getElem?_range (by omega)]; rfl
    obtain ⟨s, hs1, hs2⟩ := mm_at (b := m) hone (j := j2) (by rw [he0]; omega)
    refine At.nat (by unfold mmI; rw [List.length_map, one_len]; omega) fun s' hs' => ?_
    rw [hs1] at hs'
    cases hs'
    refine At.nat (List.getElem?_eq_some_iff.1 hs2).1 fun z hz => ?_
    rw [hs2] at hz
    cases hz
    rw [List.any_eq_false] at hh
    have hcr : ∀ y ∈ colI m j2, RIp y := fun y hy => by
      obtain ⟨s, hs, rfl⟩ := List.mem_map.1 hy
      have := hh s hs
      unfold noneB at this
      simpa using this
    have hcx : (colI m j2)[i2]? = some x := by
      unfold colI; rw [List.getElem?_map, hr]; simp only [Option.map_some]; rw [getD_at' hx]
    rw [pick_row (ok_col hm j2) hcr (by unfold colI; rw [List.length_map]) (by omega) hcx]
    have hxo := hr1.1 x (List.mem_of_getElem? hx)
    exact Call.mk (refinside_ev hxo hxo (SubI.refl x)) (Br.f rfl (Let.as _ (wi1 (by omega)) (hk4 (by omega) trivial)))
end Go.Sim.Ytlglkgineclggaa
