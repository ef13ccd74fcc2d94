/- What is proved: norms, floats as intervals and the unit matrix: what lin's functions and the reference's make of them is the same. -/
import Derived.Test.YtlkpbnhinnhlfaaGreatZLFLinX

namespace Go.Sim.YtlkpbnhinnhlfaaGreat
open Go.RowKit Go.Proofs Go.Proofs.Tryz
set_option exponentiation.threshold 5000
/-! ### Norms -/
structure NN (b : Nat) : Prop where
  n : NumB b
  p : 0 ≤ fI b
theorem NN.zero : NN 0 := ⟨NumB.zero, by decide⟩
theorem NN.rung {b : Nat} (_h : b < 18446744073709551616) (hn : isN b) : NN (rungB b) := by
  have h1 := isN_rung.1 hn
  have h2 : fI (rungB b) = rungB b := fI_small (by omega)
  exact ⟨⟨by omega, by unfold isN; omega, by omega⟩, by omega⟩
theorem fV_nonneg {i : Int} (h : 0 ≤ i) : 0 ≤ fV i := by
  have := fV_mono h
  have z : fV 0 = 0 := by decide
  omega
theorem NN.add {a b : Nat} (ha : NN a) (hb : NN b) : NN (addX a b 1) := by
  refine ⟨ha.n.add hb.n 1, ?_⟩
  unfold addX
  split
  · split
    · rw [addB_rd, fI_rd_up (by decide)]
      have h1 := fV_nonneg ha.p
      have h2 := fV_nonneg hb.p
      have := dp_mono (P := -(fV (fI a) + fV (fI b))) (P' := 0) (Q := 1) (Q' := 1) (by decide) (by decide) (by omega)
      rw [dp_zero (by decide)] at this
      omega
    · exact hb.p
  · exact ha.p
theorem NN.max {a b : Nat} (ha : NN a) (hb : NN b) : NN (fmaxB a b) := by
  have := ha.n.max hb.n
  exact ⟨this.1, by rw [this.2]; have := ha.p; omega⟩
theorem NN.apart {a b : Nat} (ha : NN a) (hb : NN b) : Apart a b := apart_hi ha.n hb.n (by have := ha.p; omega) (by have := hb.p; omega)
def magI (x : GIval) : Nat := if RIp x then fmaxB (rungB x.Lo) (rungB x.Hi) else 0
theorem nn_mag {x : GIval} (h : okI x) : NN (magI x) := by
  unfold magI
  split
  · rename_i hr
    exact (NN.rung h.1 hr.1).max (NN.rung h.2 hr.2.1)
  · exact NN.zero
theorem mag_ev {x : GIval} (h : okI x) : Ev_ival_Mag x (magI x) := by
  refine walk_ival_Mag ?_
  unfold W_ival_Mag
  refine Call.mk (none_evX (l := [x]) (fun z hz => by simp at hz; subst hz; exact h) (by simp)) ?_
  have e : [x].any noneB = !decide (RIp x) := by simp [noneB]
  rw [e]
  unfold magI
  by_cases hr : RIp x
  · rw [if_pos hr]
    have n1 := NN.rung h.1 hr.1
    have n2 := NN.rung h.2 hr.2.1
    exact Br.f (by simp [hr]) (Call.mk (abs_ev h.1) (Call.mk (abs_ev h.2) ⟨order_ne n1.n.l n2.n.l n1.n.n n2.n.n, Let.as _ rfl rfl⟩))
  · rw [if_neg hr]
    exact Br.t (by simp [hr]) rfl
theorem max_gt {a b : Nat} (ha : NumB a) (hb : NumB b) : fmaxB a b = if (FloatKind.f64.format.order b a == some .gt) = true then b else a := by
  have m := ha.max hb
  rw [fmt64, order_gt hb.l ha.l]
  by_cases c : fI a < fI b
  · rw [if_pos (by rw [decide_eq_true_iff]; exact ⟨hb.n, ha.n, c⟩)]
    exact fI_inj m.1.z hb.z (by rw [m.2]; omega)
  · rw [if_neg (by rw [decide_eq_true_iff]; exact fun k => c k.2.2)]
    exact fI_inj m.1.z ha.z (by rw [m.2]; omega)
theorem refmag_ev {x : GIval} (h : okI x) : Ev_ref02_Mag x (magI x) := by
  refine walk_ref02_Mag ?_
  unfold W_ref02_Mag
  refine Call.mk (refnone_ev h) ?_
  unfold magI noneB
  by_cases hr : RIp x
  · rw [if_pos hr]
    have n1 := NN.rung h.1 hr.1
    have n2 := NN.rung h.2 hr.2.1
    refine Br.f (by simp [hr]) (Call.mk (abs_ev h.1) (Call.mk (abs_ev h.2) ?_))
    rw [max_gt n1.n n2.n]
    exact ⟨fun c => Call.mk (abs_ev h.2) (by rw [if_pos c]), fun c => by rw [if_neg (by rw [c]; decide)]⟩
  · rw [if_neg hr]
    exact Br.t (by simp [hr]) rfl
def sumF (s : Nat) (x : GIval) : Nat := addX s (magI x) 1
def sumN (r : List GIval) : Nat := r.foldl sumF 0
def maxF (t : Nat) (r : List GIval) : Nat := fmaxB t (sumN r)
def normI (m : List (List GIval)) : Nat := m.foldl maxF 0
theorem nn_sumF : ∀ (l : List GIval) (s : Nat), okL l → NN s → NN (l.foldl sumF s)
  | [], _, _, h => h
  | x :: l, s, hl, h => nn_sumF l _ (fun y hy => hl y (List.mem_cons_of_mem _ hy)) (h.add (nn_mag (hl x (List.mem_cons_self ..))))
theorem nn_sum {r : List GIval} (h : okL r) : NN (sumN r) := nn_sumF r 0 h NN.zero
theorem nn_maxF : ∀ (l : List (List GIval)) (s : Nat), (∀ r ∈ l, okL r) → NN s → NN (l.foldl maxF s)
  | [], _, _, h => h
  | x :: l, s, hl, h => nn_maxF l _ (fun y hy => hl y (List.mem_cons_of_mem _ hy)) (h.max (nn_sum (hl x (List.mem_cons_self ..))))
theorem nn_norm {m : List (List GIval)} (h : okM m) : NN (normI m) := nn_maxF m 0 (fun r hr => (h r hr).1) NN.zero
theorem ok_take {α : Type} {l : List α} {p : α → Prop} (h : ∀ x ∈ l, p x) (i : Nat) : ∀ x ∈ l.take i, p x := fun x hx => h x (List.mem_of_mem_take hx)
theorem norm_ev {m : List (List GIval)} (hm : okM m) (lm : m.length ≤ 9223372036854775807) : Ev_lin_Norm m (if matB m = true then (normI m, 0) else (0, 1)) := by
  refine walk_lin_Norm ?_
  unfold W_lin_Norm
  refine Call.mk (matrix_ev hm lm) ?_
  cases hB : matB m with
  | false => exact Br.t rfl (by rw [if_neg (by simp)])
  | true =>
    rw [if_pos rfl]
    refine Br.f rfl (Loop2.up m.length (fun i t => t = (m.take i).foldl maxF 0) rfl ?_)
    rintro i t k hi rfl hk
    refine Br.d (fun hlt => At.nat (by omega) fun r hr => ?_) (fun hge => ?_)
    · have hr1 := hm r (List.mem_of_getElem? hr)
      have nt : NN ((m.take i).foldl maxF 0) := nn_maxF _ 0 (ok_take (fun r hr => (hm r hr).1) i) NN.zero
      refine Loop2.up r.length (fun j s => s = (r.take j).foldl sumF 0) rfl ?_
      rintro j s k2 hj rfl hk2
      have ns : NN ((r.take j).foldl sumF 0) := nn_sumF _ 0 (ok_take hr1.1 j) NN.zero
      refine Br.d (fun hlt2 => At.nat (by omega) fun x hx => ?_) (fun hge2 => ?_)
      · have hx1 := hr1.1 x (List.mem_of_getElem? hx)
        refine Call.mk (mag_ev hx1) (Call.mk (add_evX 1 ns.n (nn_mag hx1).n (ns.apart (nn_mag hx1))) (Let.as _ (wi1 (by omega)) (hk2 _ (by omega) ?_)))
        rw [foldl_snoc hx]; rfl
      · refine ⟨order_ne nt.n.l ns.n.l nt.n.n ns.n.n, Let.as _ rfl (Let.as _ (wi1 (by omega)) (hk _ (by omega) ?_))⟩
        rw [foldl_snoc hr, List.take_of_length_le (l := r) (by omega)]; rfl
    · show (_, _) = (_, _)
      rw [List.take_of_length_le (by omega)]; rfl
theorem refnorm_ev {m : List (List GIval)} (hm : okM m) (lm : m.length ≤ 9223372036854775807) : Ev_ref04_Norm m (normI m) := by
  refine walk_ref04_Norm ?_
  unfold W_ref04_Norm
  refine Loop2.up m.length (fun i t => t = (m.take i).foldl maxF 0) rfl ?_
  rintro i t k hi rfl hk
  refine Br.d (fun hlt => At.nat (by omega) fun r hr => ?_) (fun hge => ?_)
  · have hr1 := hm r (List.mem_of_getElem? hr)
    have nt : NN ((m.take i).foldl maxF 0) := nn_maxF _ 0 (ok_take (fun r hr => (hm r hr).1) i) NN.zero
    refine Loop2.up r.length (fun j s => s = (r.take j).foldl sumF 0) rfl ?_
    rintro j s k2 hj rfl hk2
    have ns : NN ((r.take j).foldl sumF 0) := nn_sumF _ 0 (ok_take hr1.1 j) NN.zero
    refine Br.d (fun hlt2 => At.nat (by omega) fun x hx => ?_) (fun hge2 => ?_)
    · have hx1 := hr1.1 x (List.mem_of_getElem? hx)
      refine Call.mk (refmag_ev hx1) (Call.mk (refadd_evX 1 ns.n (nn_mag hx1).n (ns.apart (nn_mag hx1))) (Let.as _ (wi1 (by omega)) (hk2 _ (by omega) ?_)))
      rw [foldl_snoc hx]; rfl
    · have hmx := max_gt nt.n ns.n
      have hs : sumN r = (r.take j).foldl sumF 0 := by rw [List.take_of_length_le (by omega)]; rfl
      refine ⟨fun c => Let.as _ (wi1 (by omega)) (hk _ (by omega) ?_), fun c => Let.as _ (wi1 (by omega)) (hk _ (by omega) ?_)⟩
      · rw [if_pos c] at hmx
        rw [foldl_snoc hr]; show _ = fmaxB _ (sumN r); rw [hs, hmx]
      · rw [c] at hmx
        rw [foldl_snoc hr]; show _ = fmaxB _ (sumN r); rw [hs, hmx]; rfl
  · show _ = _
    rw [List.take_of_length_le (by omega)]; rfl
/-! ### Floats -/
def okFF (f : List (List Nat)) : Prop := ∀ r ∈ f, (∀ v ∈ r, v < 18446744073709551616) ∧ r.length ≤ 9223372036854775807
def rowF (n : Nat) (r : List Nat) : Bool := decide (r.length = n) && r.all fun v => decide (isF v)
def floatsB (f : List (List Nat)) : Bool := f.all (rowF (f.headD []).length) && ((decide (1 ≤ f.length) && decide (f.length ≤ 24)) && (decide (1 ≤ (f.headD []).length) && decide ((f.headD []).length ≤ 24)))
instance (b : Nat) : Decidable (isF b) := by unfold isF; infer_instance
theorem floatsB_true {f : List (List Nat)} (h : floatsB f = true) : (∀ r ∈ f, r.length = (f.headD []).length ∧ ∀ v ∈ r, isF v) ∧ (1 ≤ f.length ∧ f.length ≤ 24) ∧ 1 ≤ (f.headD []).length ∧ (f.headD []).length ≤ 24 := by
  unfold floatsB at h
  simp only [Bool.and_eq_true, decide_eq_true_iff, List.all_eq_true] at h
  refine ⟨fun r hr => ?_, h.2⟩
  have := h.1 r hr
  unfold rowF at this
  simp only [Bool.and_eq_true, decide_eq_true_iff, List.all_eq_true] at this
  exact this
theorem floats_no {f : List (List Nat)} {r : List Nat} (hr : r ∈ f) (h : rowF (f.headD []).length r = false) : false = floatsB f := by
  unfold floatsB; rw [all_false hr h]; rfl
theorem rowF_no {n : Nat} {r : List Nat} {v : Nat} (hv : v ∈ r) (h : ¬ isF v) : rowF n r = false := by
  unfold rowF; rw [all_false hv (by rw [decide_eq_false h]), Bool.and_false]
theorem floats_ev {f : List (List Nat)} (hf : okFF f) (lf : f.length ≤ 9223372036854775807) : Ev_lin_floats f (floatsB f) := by
  refine walk_lin_floats ?_
  unfold W_lin_floats
  refine Loop1.up f.length (fun i => Upto f (fun r => rowF (f.headD []).length r = true) i) Upto.zero ?_
  intro i k hi hP hk
  refine Br.d (fun hlt => At.nat (by omega) fun r hr => At.nat (i := 0) (by omega) fun y hy => ?_) (fun hge => ?_)
  · have he := headD_of hy
    have hr1 := hf r (List.mem_of_getElem? hr)
    by_cases hlen : r.length = y.length
    · refine Br.f (by simp [hlen]) (Loop1.up r.length (fun j => Upto r (fun v => isF v) j) Upto.zero ?_)
      intro j k2 hj hP2 hk2
      refine Br.d (fun hlt2 => At.nat (by omega) fun v hv => ?_) (fun hge2 => ?_)
      · have hv1 := hr1.1 v (List.mem_of_getElem? hv)
        refine Call.mk (isNaN_ev hv1) ?_
        by_cases hn : isN v
        · refine Br.f (by simp [hn]) (Call.mk (isInf0_ev hv1) (Br.d (fun h => ?_) (fun h => ?_)))
          · exact floats_no (List.mem_of_getElem? hr) (rowF_no (List.mem_of_getElem? hv) (fun k => by have := isF_rung.1 k; omega))
          · have := isN_rung.1 hn
            exact Let.as _ (wi1 (by omega)) (hk2 (by omega) (hP2.succ hv (isF_rung.2 (by omega))))
        · exact Br.t (by simp [hn]) (floats_no (List.mem_of_getElem? hr) (rowF_no (List.mem_of_getElem? hv) (fun k => hn k.n)))
      · refine Let.as _ (wi1 (by omega)) (hk (by omega) (hP.succ hr ?_))
        unfold rowF
        rw [he, decide_eq_true hlen, Bool.true_and, List.all_eq_true]
        exact fun v hv => by rw [decide_eq_true_iff]; exact hP2.all (by omega) v hv
    · exact Br.t (by simp; omega) (floats_no (List.mem_of_getElem? hr) (by unfold rowF; rw [he, decide_eq_false hlen]; rfl))
  · have hall := List.all_eq_true.2 (hP.all (by omega))
    unfold floatsB
    rw [hall, Bool.true_and]
    refine Br.d (fun h1 => Br.d (fun h2 => At.nat (i := 0) (by omega) fun y hy => ?_) (fun h2 => ?_)) (fun h1 => ?_)
    · rw [headD_of hy, decide_eq_true (show 1 ≤ f.length by omega), decide_eq_true (show f.length ≤ 24 by omega)]
      refine Br.d (fun h3 => At.nat (i := 0) (by omega) fun y2 hy2 => ?_) (fun h3 => ?_)
      · rw [hy] at hy2; cases hy2
        rw [decide_eq_true (show 1 ≤ y.length by omega)]
        show decide _ = (_ && (_ && decide _))
        rw [Bool.true_and, Bool.true_and, Bool.true_and, decide_eq_decide]; omega
      · rw [decide_eq_false (show ¬ 1 ≤ y.length by omega)]; rfl
    · rw [decide_eq_false (show ¬ f.length ≤ 24 by omega), Bool.and_false]; rfl
    · rw [decide_eq_false (show ¬ 1 ≤ f.length by omega)]; rfl
theorem reffinite_ev {v : Nat} (hv : v < 18446744073709551616) : Ev_ref04_finite v (decide (isF v)) := by
  refine walk_ref04_finite ?_
  unfold W_ref04_finite
  rw [ge_b hv (by decide), le_b hv (by decide)]
  have e1 : fI 9218868437227405311 = 9218868437227405311 := by decide
  have e2 : fI 18442240474082181119 = -9218868437227405311 := by decide
  rw [e1, e2]
  refine Br.d (fun h => ?_) (fun h => ?_)
  · show decide _ = decide _
    rw [decide_eq_decide]
    unfold isF
    exact ⟨fun k => ⟨by have := h.2.2; omega, by have := k.2.2; omega⟩, fun k => ⟨h.1, by decide, by omega⟩⟩
  · show false = decide _
    symm; rw [decide_eq_false_iff_not]
    intro k
    have k' := k
    unfold isF at k'
    exact h ⟨k.n, by decide, by omega⟩
theorem reffloats_ev {f : List (List Nat)} (hf : okFF f) (lf : f.length ≤ 9223372036854775807) : Ev_ref04_Floats f (floatsB f) := by
  refine walk_ref04_Floats ?_
  unfold W_ref04_Floats
  refine Loop1.up f.length (fun i => Upto f (fun r => rowF (f.headD []).length r = true ∧ 1 ≤ r.length ∧ r.length ≤ 24) i) Upto.zero ?_
  intro i k hi hP hk
  refine Br.d (fun hlt => At.nat (by omega) fun r hr => ?_) (fun hge => ?_)
  · have hr1 := hf r (List.mem_of_getElem? hr)
    have nol : ¬ (1 ≤ r.length ∧ r.length ≤ 24) → false = floatsB f := fun h => by
      by_cases hl : r.length = (f.headD []).length
      · unfold floatsB
        rw [← hl]
        have : (decide (1 ≤ r.length) && decide (r.length ≤ 24)) = false := by
          rw [← Bool.decide_and, decide_eq_false h]
        rw [this, Bool.and_false, Bool.and_false]
      · exact floats_no (List.mem_of_getElem? hr) (by unfold rowF; rw [decide_eq_false hl]; rfl)
    refine Br.d (fun h1 => nol (by omega)) (fun h1 => Br.d (fun h2 => nol (by omega)) (fun h2 => At.nat (i := 0) (by omega) fun y hy => ?_))
    have he := headD_of hy
    by_cases hlen : r.length = y.length
    · refine Br.f (by simp [hlen]) (Loop1.up r.length (fun j => Upto r (fun v => isF v) j) Upto.zero ?_)
      intro j k2 hj hP2 hk2
      refine Br.d (fun hlt2 => At.nat (by omega) fun v hv => ?_) (fun hge2 => ?_)
      · have hv1 := hr1.1 v (List.mem_of_getElem? hv)
        refine Call.mk (reffinite_ev hv1) ?_
        by_cases hn : isF v
        · exact Br.f (by simp [hn]) (Let.as _ (wi1 (by omega)) (hk2 (by omega) (hP2.succ hv hn)))
        · exact Br.t (by simp [hn]) (floats_no (List.mem_of_getElem? hr) (rowF_no (List.mem_of_getElem? hv) hn))
      · refine Let.as _ (wi1 (by omega)) (hk (by omega) (hP.succ hr ⟨?_, by omega, by omega⟩))
        unfold rowF
        rw [he, decide_eq_true hlen, Bool.true_and, List.all_eq_true]
        exact fun v hv => by rw [decide_eq_true_iff]; exact hP2.all (by omega) v hv
    · exact Br.t (by simp; omega) (floats_no (List.mem_of_getElem? hr) (by unfold rowF; rw [he, decide_eq_false hlen]; rfl))
  · have hup := hP.all (by omega)
    have hall : f.all (rowF (f.headD []).length) = true := List.all_eq_true.2 fun r hr => (hup r hr).1
    unfold floatsB
    rw [hall, Bool.true_and]
    refine Br.d (fun h1 => ?_) (fun h1 => ?_)
    · obtain ⟨y, hy⟩ : ∃ y, f[0]? = some y := ⟨_, List.getElem?_eq_getElem (by omega)⟩
      have hy1 := hup y (List.mem_of_getElem? hy)
      rw [headD_of hy, decide_eq_true (show 1 ≤ f.length by omega), decide_eq_true (show 1 ≤ y.length by omega), decide_eq_true (show y.length ≤ 24 by omega)]
      show decide _ = ((_ && decide _) && _)
      rw [Bool.true_and, Bool.true_and, Bool.and_true, decide_eq_decide]; omega
    · rw [decide_eq_false (show ¬ 1 ≤ f.length by omega)]; rfl
def ptI (v : Nat) : GIval := makeI v v
def ptsI (f : List (List Nat)) : List (List GIval) := f.map fun r => r.map ptI
theorem point_ev {v : Nat} (hv : v < 18446744073709551616) (hn : isN v) : Ev_ival_Point v (ptI v) := walk_ival_Point (by unfold W_ival_Point; exact Call.mk (make_evX hv hv hn hn) rfl)
theorem rep_mid {α : Type} {n i : Nat} {x : α} (h : i < n) : List.replicate (n - i) x = x :: List.replicate (n - (i + 1)) x := by
  rw [show n - i = (n - (i + 1)) + 1 by omega, List.replicate_succ]
theorem points_ev {f : List (List Nat)} (hf : okFF f) (lf : f.length ≤ 9223372036854775807) : Ev_lin_Points f (if floatsB f = true then ptsI f else []) := by
  refine walk_lin_Points ?_
  unfold W_lin_Points
  refine Call.mk (floats_ev hf lf) ?_
  cases hB : floatsB f with
  | false => exact Br.t rfl (by rw [if_neg (by simp)])
  | true =>
    have ht := floatsB_true hB
    rw [if_pos rfl]
    refine Br.f rfl (Mk.le (by omega) (by omega) (Loop2.up f.length (fun i out => out = (f.take i).map (fun r => r.map ptI) ++ List.replicate (f.length - i) []) (by simp) ?_))
    rintro i out k hi rfl hk
    refine Br.d (fun hlt => At.nat (by omega) fun r hr => ?_) (fun hge => ?_)
    · have hr1 := hf r (List.mem_of_getElem? hr)
      have hr2 := ht.1 r (List.mem_of_getElem? hr)
      have hlt' : ((f.take i).map (fun r => r.map ptI)).length = i := by simp; omega
      refine Loop2.up r.length (fun j out => out = (f.take i).map (fun r => r.map ptI) ++ ((r.take j).map ptI) :: List.replicate (f.length - (i + 1)) []) (by rw [rep_mid (by omega)]; rfl) ?_
      rintro j out2 k2 hj rfl hk2
      refine Br.d (fun hlt2 => At.nat (by omega) fun v hv => At.nat (by simp; omega) fun z hz => ?_) (fun hge2 => ?_)
      · rw [get_mid hlt'] at hz
        cases hz
        have hv2 := hr2.2 v (List.mem_of_getElem? hv)
        refine Call.mk (point_ev (hr1.1 v (List.mem_of_getElem? hv)) hv2.n) (App.le (by omega) (by simp; omega) (Let.as _ (wi1 (by omega)) (hk2 _ (by omega) ?_)))
        rw [Int.toNat_natCast, set_mid hlt', take_snoc hv, List.map_append]; rfl
      · refine Let.as _ (wi1 (by omega)) (hk _ (by omega) ?_)
        rw [take_snoc hr, List.map_append, List.take_of_length_le (l := r) (by omega), List.append_assoc]; rfl
    · show _ = _
      rw [List.take_of_length_le (by omega), show f.length - i = 0 by omega]; simp [ptsI]
theorem refpoints_ev {f : List (List Nat)} (hf : okFF f) (lf : f.length ≤ 9223372036854775807) : Ev_ref04_Points f (if floatsB f = true then ptsI f else []) := by
  refine walk_ref04_Points ?_
  unfold W_ref04_Points
  refine Call.mk (reffloats_ev hf lf) ?_
  cases hB : floatsB f with
  | false => exact Br.t rfl (by rw [if_neg (by simp)])
  | true =>
    have ht := floatsB_true hB
    rw [if_pos rfl]
    refine Br.f rfl (Loop2.up f.length (fun i out => out = (f.take i).map (fun r => r.map ptI)) rfl ?_)
    rintro i out k hi rfl hk
    refine Br.d (fun hlt => At.nat (by omega) fun r hr => ?_) (fun hge => ?_)
    · have hr1 := hf r (List.mem_of_getElem? hr)
      have hr2 := ht.1 r (List.mem_of_getElem? hr)
      refine Loop2.up r.length (fun j out => out = (r.take j).map ptI) rfl ?_
      rintro j out2 k2 hj rfl hk2
      refine Br.d (fun hlt2 => At.nat (by omega) fun v hv => ?_) (fun hge2 => ?_)
      · have hv1 := hr1.1 v (List.mem_of_getElem? hv)
        refine Call.mk (refmake_ev hv1 hv1) (App.le (by omega) (by simp; omega) (Let.as _ (wi1 (by omega)) (hk2 _ (by omega) ?_)))
        rw [take_snoc hv, List.map_append]; rfl
      · refine App.le (by omega) (by simp; omega) (Let.as _ (wi1 (by omega)) (hk _ (by omega) ?_))
        rw [take_snoc hr, List.map_append, List.take_of_length_le (l := r) (by omega)]; rfl
    · show _ = _
      rw [List.take_of_length_le (by omega)]; rfl
/-! ### The unit matrix -/
def oneV (i j : Nat) : Nat := if i = j then 4607182418800017408 else 0
def unitL (n : Nat) : List (List Nat) := (List.range n).map fun i => (List.range n).map (oneV i)
theorem unit_row {n i : Nat} (_h : i < n) : (List.replicate n 0).set i 4607182418800017408 = (List.range n).map (oneV i) := by
  apply List.ext_getElem
  · simp
  · intro j h1 h2
    simp only [List.getElem_set, List.getElem_replicate, List.getElem_map, List.getElem_range, oneV]
theorem unit_ev {n : Nat} (h : n ≤ 24) : Ev_lin_unit (n : Int) (unitL n) := by
  refine walk_lin_unit ?_
  unfold W_lin_unit
  refine Mk.le (by omega) (by omega) ?_
  rw [List.length_replicate]
  refine Loop2.up n (fun i out => out = ((List.range i).map fun i => (List.range n).map (oneV i)) ++ List.replicate (n - i) []) (by simp) ?_
  rintro i out k hi rfl hk
  have hlt' : ((List.range i).map fun i => (List.range n).map (oneV i)).length = i := by simp
  refine Br.d (fun hlt => ?_) (fun hge => ?_)
  · rw [rep_mid (by omega)]
    refine At.nat (by simp) fun z hz => Mk.le (by omega) (by omega) ?_
    rw [Int.toNat_natCast, set_mid hlt']
    refine At.nat (by simp) fun y hy => ?_
    rw [get_mid hlt'] at hy
    cases hy
    refine At.nat (by simp; omega) fun y hy => Let.as _ (wi1 (by omega)) (hk _ (by omega) ?_)
    rw [set_mid hlt', unit_row (by omega), List.range_succ, List.map_append, List.append_assoc]; rfl
  · show _ = _
    have : i = n := by omega
    subst this
    rw [Nat.sub_self]; simp [unitL]
theorem ok_unit (n : Nat) (h : n ≤ 24) : okFF (unitL n) := fun r hr => by
  obtain ⟨i, _, rfl⟩ := List.mem_map.1 hr
  refine ⟨fun v hv => ?_, by simp; omega⟩
  obtain ⟨j, _, rfl⟩ := List.mem_map.1 hv
  unfold oneV; split <;> decide
theorem unit_len (n : Nat) : (unitL n).length = n := by simp [unitL]
def oneI (n : Nat) : List (List GIval) := ptsI (unitL n)
theorem refone_ev {n : Nat} (h : n ≤ 24) : Ev_ref04_One (n : Int) (oneI n) := by
  refine walk_ref04_One ?_
  unfold W_ref04_One
  refine Br.dF (by omega) (Loop2.up n (fun i out => out = (List.range i).map fun i => ((List.range n).map (oneV i)).map ptI) (by simp) ?_)
  rintro i out k hi rfl hk
  refine Br.d (fun hlt => ?_) (fun hge => ?_)
  · refine Loop2.up n (fun j row => row = ((List.range j).map (oneV i)).map ptI) (by simp) ?_
    rintro j row k2 hj rfl hk2
    refine Br.d (fun hlt2 => ⟨fun v => v = oneV i j, ?_, fun v hv => ?_⟩) (fun hge2 => ?_)
    · unfold oneV
      exact Br.e (fun e => by rw [if_pos (by omega)]) (fun e => by rw [if_neg (by omega)])
    · subst hv
      have hv : oneV i j < 18446744073709551616 := by unfold oneV; split <;> decide
      refine Call.mk (refmake_ev hv hv) (App.le (by omega) (by simp; omega) (Let.as _ (wi1 (by omega)) (hk2 _ (by omega) ?_)))
      rw [List.range_succ, List.map_append, List.map_append]; rfl
    · refine App.le (by omega) (by simp; omega) (Let.as _ (wi1 (by omega)) (hk _ (by omega) ?_))
      have : j = n := by omega
      subst this
      rw [List.range_succ, List.map_append]; rfl
  · show _ = _
    have : i = n := by omega
    subst this
    simp [oneI, ptsI, unitL]
/-! ### The statements -/
end Go.Sim.YtlkpbnhinnhlfaaGreat
-- seatfit
