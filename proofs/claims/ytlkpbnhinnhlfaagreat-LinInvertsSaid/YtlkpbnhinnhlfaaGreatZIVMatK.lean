/- What is proved: square matrices as lists of rows, and what becomes of them where one place is written. -/
import Derived.Test.YtlkpbnhinnhlfaaGreatZIVFnL
import Derived.Test.YtlkpbnhinnhlfaaGreatZIVWNi

namespace Go.Sim
/-- The matrix of a function's values. -/
def mkM {α : Type} (n : Nat) (f : Nat → Nat → α) : List (List α) := (List.range n).map fun i => (List.range n).map (f i)
section
variable {α β : Type} {n : Nat}
theorem rowM_get {h : Nat → α} {j : Nat} (hj : j < n) : ((List.range n).map h)[j]? = some (h j) := by rw [List.getElem?_map, List.getElem?_range hj]; rfl
theorem mkM_get {f : Nat → Nat → α} {i : Nat} (hi : i < n) : (mkM n f)[i]? = some ((List.range n).map (f i)) := rowM_get hi
theorem mkM_len {f : Nat → Nat → α} : (mkM n f).length = n := by simp [mkM]
theorem rowM_len {h : Nat → α} : ((List.range n).map h).length = n := by simp
theorem rowM_congr {h g : Nat → α} (e : ∀ b, b < n → h b = g b) : (List.range n).map h = (List.range n).map g :=
  List.map_congr_left fun b hb => e b (List.mem_range.1 hb)
theorem mkM_congr {f g : Nat → Nat → α} (e : ∀ a b, a < n → b < n → f a b = g a b) : mkM n f = mkM n g :=
  rowM_congr fun a ha => rowM_congr fun b hb => e a b ha hb
theorem rowM_set {h : Nat → α} {j : Nat} {v : α} : ((List.range n).map h).set j v = (List.range n).map (fun b => if b = j then v else h b) := by
  refine List.ext_getElem? fun k => ?_
  rw [List.getElem?_set]
  by_cases hk : k < n
  · by_cases e : j = k
    · subst e
      rw [if_pos rfl, if_pos (by simpa using hk), rowM_get hk, if_pos rfl]
    · rw [if_neg e, rowM_get hk, rowM_get hk, if_neg (fun h => e h.symm)]
  · rw [List.getElem?_eq_none (l := List.map _ _) (by simpa using hk), List.getElem?_eq_none (l := List.map _ _) (by simpa using hk)]
    split
    · rw [if_neg (by simp; omega)]
    · rfl
theorem mkM_set {f : Nat → Nat → α} {i : Nat} {h : Nat → α} : (mkM n f).set i ((List.range n).map h) = mkM n (fun a b => if a = i then h b else f a b) := by
  unfold mkM
  rw [rowM_set]
  refine rowM_congr fun a _ => ?_
  by_cases e : a = i
  · simp only [if_pos e]
  · simp only [if_neg e]
theorem mkM_same {f : Nat → Nat → α} {i : Nat} : (mkM n f).set i ((List.range n).map (f i)) = mkM n f := by
  rw [mkM_set]
  exact mkM_congr fun a b _ _ => by split <;> simp_all
/-- One place is written. -/
theorem mkM_put {f : Nat → Nat → α} {i j : Nat} {v : α} : (mkM n f).set i (((List.range n).map (f i)).set j v) = mkM n (fun a b => if a = i ∧ b = j then v else f a b) := by
  rw [rowM_set, mkM_set]
  refine mkM_congr fun a b _ _ => ?_
  by_cases e : a = i
  · subst e; simp
  · simp [e]
/-- What stands at a place. -/
def entry (d : α) (m : List (List α)) (i j : Nat) : α := ((m[i]?).getD [])[j]?.getD d
theorem row_mk (d : α) {l : List α} (h : l.length = n) : l = (List.range n).map (fun j => l[j]?.getD d) := by
  refine List.ext_getElem? fun k => ?_
  by_cases hk : k < n
  · rw [rowM_get hk, List.getElem?_eq_getElem (by omega)]; rfl
  · rw [List.getElem?_eq_none (by omega), List.getElem?_eq_none (by simpa using hk)]
theorem mk_entry (d : α) {m : List (List α)} (h : m.length = n) (hr : ∀ r ∈ m, r.length = n) : m = mkM n (entry d m) := by
  refine List.ext_getElem? fun k => ?_
  by_cases hk : k < n
  · rw [mkM_get hk, List.getElem?_eq_getElem (by omega)]
    rw [row_mk d (hr m[k] (List.getElem_mem (by omega)))]
    unfold entry
    rw [List.getElem?_eq_getElem (by omega)]
    simp
  · rw [List.getElem?_eq_none (by omega), List.getElem?_eq_none (by rw [mkM_len]; omega)]
theorem map_mkM {f : Nat → Nat → α} {g : α → β} : (mkM n f).map (List.map g) = mkM n (fun i j => g (f i j)) := by
  unfold mkM; rw [List.map_map]
  refine List.map_congr_left fun i _ => ?_
  simp only [Function.comp, List.map_map]
  rfl
theorem mem_mkM {f : Nat → Nat → α} {r : List α} (h : r ∈ mkM n f) : ∃ i, i < n ∧ r = (List.range n).map (f i) := by
  obtain ⟨i, hi, rfl⟩ := List.mem_map.1 h; exact ⟨i, List.mem_range.1 hi, rfl⟩
theorem mem_rowM {h : Nat → α} {v : α} (hv : v ∈ (List.range n).map h) : ∃ j, j < n ∧ v = h j := by
  obtain ⟨j, hj, rfl⟩ := List.mem_map.1 hv; exact ⟨j, List.mem_range.1 hj, rfl⟩
end
end Go.Sim

/- What is proved: floats as intervals and the unit matrix as own rows; the negative of an interval, the difference of two; the unit matrix less a matrix. -/
namespace Go.Sim.YtlkpbnhinnhlfaaGreat
open Go.RowKit Go.Proofs Go.Proofs.Tryz
theorem pointsR_ev {f : List (List Nat)} (hf : okFF f) (lf : f.length ≤ 9223372036854775807) (hB : floatsB f = true) : EvR_lin_Points f (ptsI f) := by
  refine walkR_lin_Points ?_
  unfold WR_lin_Points
  refine Call.mk (floats_ev hf lf) ?_
  rw [hB]
  have ht := floatsB_true hB
  refine Br.f rfl (Mk.le (by omega) (by omega) (Loop2.up f.length (fun i out => out = (f.take i).map (fun r => r.map ptI) ++ List.replicate (f.length - i) []) (by simp) ?_))
  rintro i out k hi rfl hk
  refine Br.d (fun hlt => At.nat (by omega) fun r hr => ?_) (fun hge => ?_)
  · have hr1 := hf r (List.mem_of_getElem? hr)
    have hr2 := ht.1 r (List.mem_of_getElem? hr)
    have hlt' : ((f.take i).map (fun r => r.map ptI)).length = i := by simp; omega
    refine Loop2.up r.length (fun j out => out = (f.take i).map (fun r => r.map ptI) ++ ((r.take j).map ptI) :: List.replicate (f.length - (i + 1)) []) (by rw [rep_mid (by omega)]; rfl) ?_
    rintro j out2 k2 hj rfl hk2
    refine Br.d (fun hlt2 => At.nat (by omega) fun v hv => At.nat (by simp; omega) fun z hz => ?_) (fun hge2 => ?_)
    · rw [get_mid hlt'] at hz
      cases hz
      have hv2 := hr2.2 v (List.mem_of_getElem? hv)
      refine Call.mk (point_ev (hr1.1 v (List.mem_of_getElem? hv)) hv2.n) (App.le (by omega) (by simp; omega) (Let.as _ (wi1 (by omega)) (hk2 _ (by omega) ?_)))
      rw [Int.toNat_natCast, set_mid hlt', take_snoc hv, List.map_append]; rfl
    · refine Let.as _ (wi1 (by omega)) (hk _ (by omega) ?_)
      rw [take_snoc hr, List.map_append, List.take_of_length_le (l := r) (by omega), List.append_assoc]; rfl
  · show _ = _
    have : i = f.length := by omega
    subst this
    rw [Nat.sub_self, List.take_of_length_le (Nat.le_refl _)]; simp [ptsI]
theorem unitL_mk (n : Nat) : unitL n = mkM n oneV := rfl
theorem oneV_lt (i j : Nat) : oneV i j < 18446744073709551616 := by unfold oneV; split <;> decide
theorem oneV_F (i j : Nat) : isF (oneV i j) := by unfold oneV; split <;> (unfold isF; decide)
/-- A square matrix of floats that are numbers. -/
structure SqF (n : Nat) (f : Nat → Nat → Nat) : Prop where
  lt : ∀ i j, i < n → j < n → f i j < 18446744073709551616
  fin : ∀ i j, i < n → j < n → isF (f i j)
theorem SqF.ff {n : Nat} {f : Nat → Nat → Nat} (hn : n ≤ 24) (h : ∀ i j, i < n → j < n → f i j < 18446744073709551616) : okFF (mkM n f) := fun r hr => by
  obtain ⟨i, hi, rfl⟩ := mem_mkM hr
  refine ⟨fun v hv => ?_, by rw [rowM_len]; omega⟩
  obtain ⟨j, hj, rfl⟩ := mem_rowM hv
  exact h i j hi hj
theorem headD_mk {α : Type} {n : Nat} (h : 1 ≤ n) (f : Nat → Nat → α) : ((mkM n f).headD []) = (List.range n).map (f 0) := by
  obtain ⟨m, rfl⟩ : ∃ m, n = m + 1 := ⟨n - 1, by omega⟩
  unfold mkM
  rw [List.range_succ_eq_map]
  rfl
theorem SqF.floats {n : Nat} {f : Nat → Nat → Nat} (h1 : 1 ≤ n) (hn : n ≤ 24) (h : SqF n f) : floatsB (mkM n f) = true := by
  unfold floatsB
  rw [headD_mk h1, rowM_len, mkM_len]
  simp only [Bool.and_eq_true, List.all_eq_true, decide_eq_true_iff]
  refine ⟨fun r hr => ?_, ⟨h1, hn⟩, h1, hn⟩
  obtain ⟨i, hi, rfl⟩ := mem_mkM hr
  unfold rowF
  simp only [Bool.and_eq_true, List.all_eq_true, decide_eq_true_iff, rowM_len, true_and]
  intro v hv
  obtain ⟨j, hj, rfl⟩ := mem_rowM hv
  exact h.fin i j hi hj
theorem oneR_ev {n : Nat} (h1 : 1 ≤ n) (hn : n ≤ 24) : EvR_lin_One (n : Int) (mkM n fun i j => ptI (oneV i j)) := by
  refine walkR_lin_One ?_
  unfold WR_lin_One
  have hq : SqF n oneV := ⟨fun i j _ _ => oneV_lt i j, fun i j _ _ => oneV_F i j⟩
  refine Br.dF (by omega) (Br.dF (by omega) (Call.mk (unit_ev hn) (Call.mk (pointsR_ev (f := unitL n) (SqF.ff hn hq.lt) (by rw [unit_len]; omega) (hq.floats h1 hn)) ?_)))
  show _ = _
  rw [unitL_mk, ptsI, map_mkM]
/-! ### Negatives -/
theorem negW_hi {x : Nat} (h : 9223372036854775808 ≤ x) (h2 : x < 18446744073709551616) : Op.negFloat .f64 x = x - 9223372036854775808 := by
  have : Op.negFloat .f64 (x - 9223372036854775808) = x := by rw [negF (by omega)]; omega
  have e : ∀ y, Op.negFloat .f64 (Op.negFloat .f64 y) = y := fun y => by
    show (y ^^^ _) ^^^ _ = y
    rw [Nat.xor_assoc, Nat.xor_self, Nat.xor_zero]
  rw [← this, e]; omega
theorem negW_I {b : Nat} (h : b < 18446744073709551616) : fI (Op.negFloat .f64 b) = -fI b := by
  by_cases c : b < 9223372036854775808
  · rw [negF c]; unfold fI; rw [if_neg (by omega), if_pos c]; omega
  · rw [negW_hi (by omega) h]; unfold fI; rw [if_pos (by omega), if_neg c]; omega
theorem negW_N {b : Nat} (h : b < 18446744073709551616) (hn : isN b) : isN (Op.negFloat .f64 b) := by
  unfold isN at hn ⊢; rw [negW_I h]; omega
def negI (x : GIval) : GIval := if RIp x then makeI (Op.negFloat .f64 x.Hi) (Op.negFloat .f64 x.Lo) else EMP
def subI (x y : GIval) : GIval := addI x (negI y)
theorem ok_neg {x : GIval} (h : okI x) : okI (negI x) := by
  unfold negI; split
  · exact ok_make (negF_lt h.2) (negF_lt h.1)
  · exact ok_emp
theorem ok_sub {x y : GIval} (hx : okI x) (hy : okI y) : okI (subI x y) := ok_add hx (ok_neg hy)
theorem ineg_ev {x : GIval} (h : okI x) : Ev_ival_Neg x (negI x) := by
  refine walk_ival_Neg ?_
  unfold W_ival_Neg
  refine Call.mk (none_evX (l := [x]) (fun z hz => by simp at hz; subst hz; exact h) (by simp)) ?_
  have e : [x].any noneB = !decide (RIp x) := by simp [noneB]
  rw [e]
  unfold negI
  by_cases hr : RIp x
  · rw [if_pos hr]
    exact Br.f (by simp [hr]) (Let.it (Let.it (Call.mk (make_evX (negF_lt h.2) (negF_lt h.1) (negW_N h.2 hr.2.1) (negW_N h.1 hr.1)) rfl)))
  · rw [if_neg hr]
    exact Br.t (by simp [hr]) (Call.mk empty_ev rfl)
theorem isub_ev {x y : GIval} (hx : okI x) (hy : okI y) : Ev_ival_Sub x y (subI x y) := by
  refine walk_ival_Sub ?_
  unfold W_ival_Sub
  exact Call.mk (ineg_ev hy) (Call.mk (iadd_evX hx (ok_neg hy)) rfl)
theorem ok_pt {v : Nat} (h : v < 18446744073709551616) : okI (ptI v) := ok_make h h
/-- The unit matrix less a matrix. -/
theorem lessOne_ev {n : Nat} (h1 : 1 ≤ n) (hn : n ≤ 24) {f : Nat → Nat → GIval} (hf : ∀ i j, i < n → j < n → okI (f i j)) : Ev_lin_lessOne (mkM n f) (mkM n fun i j => subI (ptI (oneV i j)) (f i j)) := by
  refine walk_lin_lessOne ?_
  unfold W_lin_lessOne
  rw [mkM_len]
  refine Call.mk (oneR_ev h1 hn) ?_
  rw [mkM_len]
  refine Loop2.up n (fun i out => out = mkM n fun a b => if a < i then subI (ptI (oneV a b)) (f a b) else ptI (oneV a b)) (mkM_congr fun a b _ _ => by simp) ?_
  rintro i out k hi rfl hk
  refine Br.d (fun hlt => At.nat (by rw [mkM_len]; omega) fun r hr => ?_) (fun hge => ?_)
  · have hin : i < n := by omega
    rw [mkM_get hin] at hr
    cases hr
    rw [Int.toNat_natCast, mkM_same, rowM_len]
    refine Loop2.up n (fun j out => out = mkM n fun a b => if a < i ∨ a = i ∧ b < j then subI (ptI (oneV a b)) (f a b) else ptI (oneV a b)) (mkM_congr fun a b _ _ => by simp) ?_
    rintro j out k2 hj rfl hk2
    refine Br.d (fun hlt2 => ?_) (fun hge2 => ?_)
    · have hjn : j < n := by omega
      refine At.nat (by rw [mkM_len]; omega) fun r hr => ?_
      rw [mkM_get hin] at hr
      cases hr
      refine At.nat (by rw [rowM_len]; omega) fun x hx => ?_
      rw [rowM_get hjn] at hx
      cases hx
      rw [if_neg (by omega)]
      refine At.nat (by rw [mkM_len]; omega) fun r hr => ?_
      rw [mkM_get hin] at hr
      cases hr
      refine At.nat (by rw [rowM_len]; omega) fun y hy => ?_
      rw [rowM_get hjn] at hy
      cases hy
      refine Call.mk (isub_ev (ok_pt (oneV_lt i j)) (hf i j hin hjn)) (At.nat (by rw [rowM_len]; omega) fun z _ => Let.as _ (wi1 (by omega)) (hk2 _ (by omega) ?_))
      refine (mkM_put (j := j) (f := fun a b => if a < i ∨ a = i ∧ b < j then subI (ptI (oneV a b)) (f a b) else ptI (oneV a b))).trans ?_
      refine mkM_congr fun a b _ _ => ?_
      by_cases e : a = i ∧ b = j
      · obtain ⟨rfl, rfl⟩ := e; simp
      · rw [if_neg e]
        by_cases c : a < i ∨ a = i ∧ b < j
        · rw [if_pos c, if_pos (by omega)]
        · rw [if_neg c, if_neg (by omega)]
    · refine Let.as _ (wi1 (by omega)) (hk _ (by omega) ?_)
      refine mkM_congr fun a b _ hb => ?_
      by_cases c : a < i + 1
      · rw [if_pos c, if_pos (by omega)]
      · rw [if_neg c, if_neg (by omega)]
  · show _ = _
    exact mkM_congr fun a b ha _ => by rw [if_pos (by omega)]
end Go.Sim.YtlkpbnhinnhlfaaGreat

/- What is proved: linear algebra over quotients: fewer equations than unknowns have a solution that is not nought; what is near to one has no such solution; so there is an inverse, and how near it is to what is nearly one. -/
namespace Go.Sim
/-! ### Sums -/
def sumQ (f : Nat → Rat) : Nat → Rat
  | 0 => 0
  | n + 1 => sumQ f n + f n
theorem sumQ_congr {f g : Nat → Rat} : ∀ {n : Nat}, (∀ i, i < n → f i = g i) → sumQ f n = sumQ g n
  | 0, _ => rfl
  | n + 1, h => by rw [sumQ, sumQ, sumQ_congr (n := n) fun i hi => h i (by omega), h n (by omega)]
theorem sumQ_zero {f : Nat → Rat} : ∀ {n : Nat}, (∀ i, i < n → f i = 0) → sumQ f n = 0
  | 0, _ => rfl
  | n + 1, h => by rw [sumQ, sumQ_zero (n := n) fun i hi => h i (by omega), h n (by omega)]; grind
theorem sumQ_add (f g : Nat → Rat) : ∀ n : Nat, sumQ (fun i => f i + g i) n = sumQ f n + sumQ g n
  | 0 => by simp only [sumQ]; grind
  | n + 1 => by simp only [sumQ, sumQ_add f g n]; grind
theorem sumQ_mul (c : Rat) (f : Nat → Rat) : ∀ n : Nat, sumQ (fun i => c * f i) n = c * sumQ f n
  | 0 => by simp only [sumQ]; grind
  | n + 1 => by simp only [sumQ, sumQ_mul c f n]; grind
theorem sumQ_sub (f g : Nat → Rat) : ∀ n : Nat, sumQ (fun i => f i - g i) n = sumQ f n - sumQ g n
  | 0 => by simp only [sumQ]; grind
  | n + 1 => by simp only [sumQ, sumQ_sub f g n]; grind
theorem sumQ_swap (f : Nat → Nat → Rat) (n : Nat) : ∀ m : Nat, sumQ (fun i => sumQ (fun j => f i j) n) m = sumQ (fun j => sumQ (fun i => f i j) m) n
  | 0 => by simp only [sumQ]; rw [sumQ_zero (fun _ _ => rfl)]
  | m + 1 => by simp only [sumQ]; rw [sumQ_swap f n m, ← sumQ_add]
theorem sumQ_one {n k : Nat} (hk : k < n) (f : Nat → Rat) : sumQ (fun j => if j = k then f j else 0) n = f k := by
  induction n with
  | zero => omega
  | succ n ih =>
    rw [sumQ]
    by_cases h : k = n
    · subst h
      rw [sumQ_zero fun i hi => by rw [if_neg (by omega)], if_pos rfl]; grind
    · rw [ih (by omega), if_neg (by omega)]; grind
def absQ (a : Rat) : Rat := if 0 ≤ a then a else -a
theorem absQ_nn (a : Rat) : 0 ≤ absQ a := by unfold absQ; grind
theorem absQ_add (a b : Rat) : absQ (a + b) ≤ absQ a + absQ b := by unfold absQ; grind
theorem absQ_mul (a b : Rat) : absQ (a * b) = absQ a * absQ b := by
  unfold absQ
  by_cases ha : 0 ≤ a <;> by_cases hb : 0 ≤ b
  · rw [if_pos ha, if_pos hb, if_pos (Rat.mul_nonneg ha hb)]
  · have h := Rat.mul_nonneg ha (show 0 ≤ -b by grind)
    rw [if_pos ha, if_neg hb]
    split <;> grind
  · have h := Rat.mul_nonneg (show 0 ≤ -a by grind) hb
    rw [if_neg ha, if_pos hb]
    split <;> grind
  · have h := Rat.mul_nonneg (show 0 ≤ -a by grind) (show 0 ≤ -b by grind)
    rw [if_neg ha, if_neg hb]
    split <;> grind
theorem absQ_zero {a : Rat} (h : absQ a ≤ 0) : a = 0 := by unfold absQ at h; grind
theorem absQ_sum (f : Nat → Rat) : ∀ n : Nat, absQ (sumQ f n) ≤ sumQ (fun i => absQ (f i)) n
  | 0 => by simp only [sumQ]; unfold absQ; grind
  | n + 1 => by
    simp only [sumQ]
    have := absQ_sum f n
    have := absQ_add (sumQ f n) (f n)
    grind
theorem sumQ_le {f g : Nat → Rat} : ∀ {n : Nat}, (∀ i, i < n → f i ≤ g i) → sumQ f n ≤ sumQ g n
  | 0, _ => by simp only [sumQ]; grind
  | n + 1, h => by
    simp only [sumQ]
    have := sumQ_le (n := n) fun i hi => h i (by omega)
    have := h n (by omega)
    grind
/-! ### Fewer equations than unknowns -/
/-- What is left out of the sum. -/
theorem sumQ_skip {n k : Nat} (hk : k < n) (f : Nat → Rat) : sumQ f n = f k + sumQ (fun j => if j = k then 0 else f j) n := by
  have h : f k = sumQ (fun j => if j = k then f j else 0) n := (sumQ_one hk f).symm
  rw [h, ← sumQ_add]
  refine sumQ_congr fun j _ => ?_
  split <;> grind
theorem kernQ : ∀ (m n : Nat), m < n → ∀ A : Nat → Nat → Rat, ∃ x : Nat → Rat, (∃ j, j < n ∧ x j ≠ 0) ∧ ∀ i, i < m → sumQ (fun j => A i j * x j) n = 0 := by
  intro m
  induction m with
  | zero =>
    intro n hn A
    exact ⟨fun _ => 1, ⟨0, by omega, by grind⟩, fun i hi => by omega⟩
  | succ m ih =>
    intro n hn A
    -- the last equation
    by_cases h0 : ∀ j, j < n → A m j = 0
    · obtain ⟨x, hx, h⟩ := ih n (by omega) A
      refine ⟨x, hx, fun i hi => ?_⟩
      by_cases e : i = m
      · subst e
        exact sumQ_zero fun j hj => by rw [h0 j hj]; grind
      · exact h i (by omega)
    · -- one of its numbers is not nought: that unknown is told by the others
      obtain ⟨k, hk, hAk⟩ : ∃ k, k < n ∧ A m k ≠ 0 := by
        apply Classical.byContradiction
        intro hne
        exact h0 fun j hj => Classical.byContradiction fun hz => hne ⟨j, hj, hz⟩
      cases n with
      | zero => omega
      | succ n =>
        -- the unknowns less that one: 'sk' counts on past it
        let sk : Nat → Nat := fun j => if j < k then j else j + 1
        let A' : Nat → Nat → Rat := fun i j => A i (sk j) - A i k * (A m (sk j) / A m k)
        obtain ⟨y, ⟨j0, hj0, hy0⟩, hy⟩ := ih n (by omega) A'
        let z : Nat → Rat := fun j => if j < k then y j else if j = k then 0 else y (j - 1)
        have hz : ∀ f : Nat → Rat, sumQ (fun j => if j = k then 0 else f j * z j) (n + 1) = sumQ (fun j => f (sk j) * y j) n := by
          intro f
          have gen : ∀ N, sumQ (fun j => if j = k then 0 else f j * z j) (if N < k then N else N + 1) = sumQ (fun j => f (sk j) * y j) N := by
            intro N
            induction N with
            | zero =>
              by_cases h : 0 < k
              · rw [if_pos h]; rfl
              · rw [if_neg h]
                have : k = 0 := by omega
                simp only [sumQ, this]
                grind
            | succ N ihN =>
              by_cases h : N + 1 < k
              · rw [if_pos h]
                rw [if_pos (by omega)] at ihN
                rw [sumQ, sumQ, ihN]
                congr 1
                have hz1 : z N = y N := if_pos (by omega)
                have hs1 : sk N = N := if_pos (by omega)
                rw [if_neg (by omega), hz1, hs1]
              · rw [if_neg h]
                by_cases h2 : N < k
                · have e : N + 1 = k := by omega
                  rw [if_pos h2] at ihN
                  rw [sumQ, sumQ, sumQ, ihN]
                  have hz1 : z N = y N := if_pos (by omega)
                  have hs1 : sk N = N := if_pos (by omega)
                  rw [if_neg (by omega), hz1, hs1, if_pos e]
                  grind
                · rw [if_neg h2] at ihN
                  rw [sumQ]
                  show _ = sumQ (fun j => f (sk j) * y j) N + f (sk N) * y N
                  rw [ihN]
                  congr 1
                  have hz1 : z (N + 1) = y N := by
                    show (if N + 1 < k then y (N + 1) else if N + 1 = k then 0 else y (N + 1 - 1)) = _
                    rw [if_neg (by omega), if_neg (by omega)]; rfl
                  have hs1 : sk N = N + 1 := if_neg (by omega)
                  rw [if_neg (by omega), hz1, hs1]
          have := gen n
          rwa [if_neg (by omega)] at this
        let x : Nat → Rat := fun j => if j = k then - (sumQ (fun j => A m (sk j) * y j) n / A m k) else z j
        have hsum : ∀ i, sumQ (fun j => A i j * x j) (n + 1) = A i k * x k + sumQ (fun j => A i (sk j) * y j) n := by
          intro i
          rw [sumQ_skip hk, ← hz]
          congr 1
          refine sumQ_congr fun j _ => ?_
          by_cases e : j = k
          · rw [if_pos e, if_pos e]
          · rw [if_neg e, if_neg e]
            have : x j = z j := if_neg e
            rw [this]
        have hxk : x k = - (sumQ (fun j => A m (sk j) * y j) n / A m k) := if_pos rfl
        refine ⟨x, ⟨sk j0, ?_, ?_⟩, fun i hi => ?_⟩
        · show (if j0 < k then j0 else j0 + 1) < n + 1
          split <;> omega
        · have h1 : sk j0 ≠ k := by
            show (if j0 < k then j0 else j0 + 1) ≠ k
            split <;> omega
          have h2 : x (sk j0) = z (sk j0) := if_neg h1
          have h3 : z (sk j0) = y j0 := by
            by_cases h : j0 < k
            · have hs : sk j0 = j0 := if_pos h
              rw [hs]; exact if_pos h
            · have hs : sk j0 = j0 + 1 := if_neg h
              rw [hs]
              show (if j0 + 1 < k then y (j0 + 1) else if j0 + 1 = k then 0 else y (j0 + 1 - 1)) = _
              rw [if_neg (by omega), if_neg (by omega)]; rfl
          rw [h2, h3]; exact hy0
        · rw [hsum, hxk]
          by_cases e : i = m
          · subst e
            grind
          · have h1 := hy i (by omega)
            have h2 : sumQ (fun j => A' i j * y j) n = sumQ (fun j => A i (sk j) * y j) n - (A i k / A m k) * sumQ (fun j => A m (sk j) * y j) n := by
              rw [← sumQ_mul, ← sumQ_sub]
              refine sumQ_congr fun j _ => ?_
              show (A i (sk j) - A i k * (A m (sk j) / A m k)) * y j = _
              grind
            rw [h2] at h1
            grind
/-! ### What is near to one -/
/-- The greatest of amounts. -/
theorem maxQ (x : Nat → Rat) : ∀ n : Nat, 0 < n → ∃ i, i < n ∧ ∀ j, j < n → absQ (x j) ≤ absQ (x i)
  | 0, h => by omega
  | n + 1, _ => by
    by_cases h0 : n = 0
    · subst h0
      exact ⟨0, by omega, fun j hj => by have : j = 0 := by omega
                                         rw [this]; grind⟩
    · obtain ⟨i, hi, h⟩ := maxQ x n (by omega)
      by_cases hc : absQ (x n) ≤ absQ (x i)
      · exact ⟨i, by omega, fun j hj => by
          by_cases e : j = n
          · rw [e]; exact hc
          · exact h j (by omega)⟩
      · exact ⟨n, by omega, fun j hj => by
          by_cases e : j = n
          · rw [e]; grind
          · have := h j (by omega)
            grind⟩
def eyeQ (i j : Nat) : Rat := if i = j then 1 else 0
def applyQ (A : Nat → Nat → Rat) (n : Nat) (x : Nat → Rat) (i : Nat) : Rat := sumQ (fun j => A i j * x j) n
def mulQ (A B : Nat → Nat → Rat) (n : Nat) (i j : Nat) : Rat := sumQ (fun k => A i k * B k j) n
theorem apply_mul (A B : Nat → Nat → Rat) (n : Nat) (x : Nat → Rat) (i : Nat) : applyQ (mulQ A B n) n x i = applyQ A n (applyQ B n x) i := by
  unfold applyQ mulQ
  have h1 : ∀ j, sumQ (fun k => A i k * B k j) n * x j = sumQ (fun k => A i k * (B k j * x j)) n := fun j => by
    rw [Rat.mul_comm, ← sumQ_mul]
    exact sumQ_congr fun k _ => by grind
  rw [sumQ_congr fun j _ => h1 j, sumQ_swap]
  refine sumQ_congr fun k _ => ?_
  exact sumQ_mul (A i k) (fun j => B k j * x j) n
/-- Near to one: each row's sum of amounts of what lacks is at most 'd'. -/
def NearQ (B : Nat → Nat → Rat) (n : Nat) (d : Rat) : Prop := ∀ i, i < n → sumQ (fun j => absQ (eyeQ i j - B i j)) n ≤ d
/-- How much a vector is changed. -/
theorem near_diff {B : Nat → Nat → Rat} {n : Nat} {d : Rat} (h : NearQ B n d) {x : Nat → Rat} {M : Rat} (hM : ∀ j, j < n → absQ (x j) ≤ M) {i : Nat} (hi : i < n) : absQ (x i - applyQ B n x i) ≤ d * M := by
  have hM0 : 0 ≤ M := by have := hM i hi; have := absQ_nn (x i); grind
  have e : x i - applyQ B n x i = sumQ (fun j => (eyeQ i j - B i j) * x j) n := by
    have h1 : x i = sumQ (fun j => eyeQ i j * x j) n := by
      have h2 : sumQ (fun j => eyeQ i j * x j) n = sumQ (fun j => if j = i then x j else 0) n := sumQ_congr fun j _ => by
        unfold eyeQ
        by_cases e : i = j
        · rw [if_pos e, if_pos e.symm]; grind
        · rw [if_neg e, if_neg (fun h => e h.symm)]; grind
      rw [h2, sumQ_one hi]
    conv => lhs; rw [h1]
    unfold applyQ
    rw [← sumQ_sub]
    exact sumQ_congr fun j _ => by grind
  rw [e]
  refine Rat.le_trans (absQ_sum _ _) ?_
  have h1 : sumQ (fun j => absQ ((eyeQ i j - B i j) * x j)) n ≤ sumQ (fun j => M * absQ (eyeQ i j - B i j)) n := sumQ_le fun j hj => by
    rw [absQ_mul, Rat.mul_comm M]
    exact Rat.mul_le_mul_of_nonneg_left (hM j hj) (absQ_nn _)
  rw [sumQ_mul] at h1
  have h2 := Rat.mul_le_mul_of_nonneg_left (h i hi) hM0
  grind
/-- Nothing but nought is made nought. -/
theorem near_inj {B : Nat → Nat → Rat} {n : Nat} {d : Rat} (h : NearQ B n d) (hd : d < 1) {x : Nat → Rat} (hx : ∀ i, i < n → applyQ B n x i = 0) : ∀ j, j < n → x j = 0 := by
  intro j hj
  obtain ⟨i, hi, hmax⟩ := maxQ x n (by omega)
  have h1 := near_diff h hmax hi
  rw [hx i hi] at h1
  have e : x i - 0 = x i := by grind
  rw [e] at h1
  have h0 := absQ_nn (x i)
  have h2 : absQ (x i) ≤ 0 := by
    apply Classical.byContradiction
    intro hc
    have hpos : 0 < absQ (x i) := by grind
    have := Rat.mul_lt_mul_of_pos_right hd hpos
    grind
  have := hmax j hj
  exact absQ_zero (by grind)
/-- So there is an inverse. -/
theorem near_sol {R A : Nat → Nat → Rat} {n : Nat} {d : Rat} (h : NearQ (mulQ R A n) n d) (hd : d < 1) (k : Nat) : ∃ y : Nat → Rat, ∀ i, i < n → applyQ A n y i = eyeQ i k := by
  obtain ⟨x, ⟨j0, hj0, hx0⟩, hx⟩ := kernQ n (n + 1) (by omega) fun i j => if j < n then A i j else - eyeQ i k
  have hs : ∀ i, i < n → applyQ A n x i = eyeQ i k * x n := fun i hi => by
    have h1 := hx i hi
    rw [sumQ, if_neg (by omega), sumQ_congr (g := fun j => A i j * x j) fun j hj => by rw [if_pos hj]] at h1
    show sumQ (fun j => A i j * x j) n = _
    grind
  have hn0 : x n ≠ 0 := by
    intro hz
    have h0 : ∀ i, i < n → applyQ (mulQ R A n) n x i = 0 := fun i hi => by
      rw [apply_mul]
      exact sumQ_zero fun j hj => by rw [hs j hj, hz]; grind
    have h1 := near_inj h hd h0
    by_cases e : j0 = n
    · rw [e] at hx0; exact hx0 hz
    · exact hx0 (h1 j0 (by omega))
  refine ⟨fun j => x j / x n, fun i hi => ?_⟩
  have h1 : applyQ A n (fun j => x j / x n) i = (1 / x n) * applyQ A n x i := by
    unfold applyQ
    rw [← sumQ_mul]
    exact sumQ_congr fun j _ => by grind
  rw [h1, hs i hi]
  grind
/-- How near a column is to the inverse's. -/
theorem near_bound {R A : Nat → Nat → Rat} {n : Nat} {d : Rat} (h : NearQ (mulQ R A n) n d) (hd : d < 1) (h0 : 0 ≤ d) {k : Nat} (hk : k < n) {y : Nat → Rat} (hy : ∀ i, i < n → applyQ A n y i = eyeQ i k) {C : Rat} (hC : ∀ i, i < n → absQ (R i k) ≤ C) {i : Nat} (hi : i < n) :
    absQ (y i - R i k) * (1 - d) ≤ d * C := by
  have hr : ∀ i, applyQ (mulQ R A n) n y i = R i k := fun i => by
    rw [apply_mul]
    unfold applyQ
    have h1 : sumQ (fun j => R i j * sumQ (fun l => A j l * y l) n) n = sumQ (fun j => if j = k then R i j else 0) n := sumQ_congr fun j hj => by
      have h2 : sumQ (fun l => A j l * y l) n = eyeQ j k := hy j hj
      rw [h2]
      unfold eyeQ
      by_cases e : j = k
      · rw [if_pos e, if_pos e]; grind
      · rw [if_neg e, if_neg e]; grind
    rw [h1, sumQ_one hk]
  obtain ⟨m, hm, hmax⟩ := maxQ y n (by omega)
  have hb := fun i (hi : i < n) => near_diff h hmax hi
  have h1 := hb m hm
  rw [hr] at h1
  have h2 := hC m hm
  have h3 : absQ (y m) ≤ absQ (y m - R m k) + absQ (R m k) := by
    have := absQ_add (y m - R m k) (R m k)
    have e : y m - R m k + R m k = y m := by grind
    rwa [e] at this
  -- the greatest is at most C / (1 - d)
  have h4 : absQ (y m) * (1 - d) ≤ C := by grind
  have h5 := hb i hi
  rw [hr] at h5
  have h6 := Rat.mul_le_mul_of_nonneg_right h5 (show 0 ≤ 1 - d by grind)
  have h7 := Rat.mul_le_mul_of_nonneg_left h4 h0
  grind
end Go.Sim
