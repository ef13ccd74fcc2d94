/- What is proved: square matrices as lists of rows, and what becomes of them where one place is written. -/
import Derived.Test.YtlkpbnhinnhlfaaZSHNerB
import Derived.Test.YtlkpbnhinnhlfaaZSHWNi

namespace Go.Sim
/-- The matrix of a function's values. -/
def mkM {α : Type} (n : Nat) (f : Nat → Nat → α) : List (List α) := (List.range n).map fun i => (List.range n).map (f i)
section
variable {α β : Type} {n : Nat}
theorem rowM_get {h : Nat → α} {j : Nat} (hj : j < n) : ((List.range n).map h)[j]? = some (h j) := by rw [List.getElem?_map, List.getElem?_range hj]; rfl
theorem mkM_get {f : Nat → Nat → α} {i : Nat} (hi : i < n) : (mkM n f)[i]? = some ((List.range n).map (f i)) := rowM_get hi
theorem mkM_len {f : Nat → Nat → α} : (mkM n f).length = n := by simp [mkM]
theorem rowM_len {h : Nat → α} : ((List.range n).map h).length = n := by simp
theorem rowM_congr {h g : Nat → α} (e : ∀ b, b < n → h b = g b) : (List.range n).map h = (List.range n).map g :=
  List.map_congr_left fun b hb => e b (List.mem_range.1 hb)
theorem mkM_congr {f g : Nat → Nat → α} (e : ∀ a b, a < n → b < n → f a b = g a b) : mkM n f = mkM n g :=
  rowM_congr fun a ha => rowM_congr fun b hb => e a b ha hb
theorem rowM_set {h : Nat → α} {j : Nat} {v : α} : ((List.range n).map h).set j v = (List.range n).map (fun b => if b = j then v else h b) := by
  refine List.ext_getElem? fun k => ?_
  rw [List.getElem?_set]
  by_cases hk : k < n
  · by_cases e : j = k
    · subst e
      rw [if_pos rfl, if_pos (by simpa using hk), rowM_get hk, if_pos rfl]
    · rw [if_neg e, rowM_get hk, rowM_get hk, if_neg (fun h => e h.symm)]
  · rw [List.getElem?_eq_none (l := List.map _ _) (by simpa using hk), List.getElem?_eq_none (l := List.map _ _) (by simpa using hk)]
    split
    · rw [if_neg (by simp; omega)]
    · rfl
theorem mkM_set {f : Nat → Nat → α} {i : Nat} {h : Nat → α} : (mkM n f).set i ((List.range n).map h) = mkM n (fun a b => if a = i then h b else f a b) := by
  unfold mkM
  rw [rowM_set]
  refine rowM_congr fun a _ => ?_
  by_cases e : a = i
  · simp only [if_pos e]
  · simp only [if_neg e]
theorem mkM_same {f : Nat → Nat → α} {i : Nat} : (mkM n f).set i ((List.range n).map (f i)) = mkM n f := by
  rw [mkM_set]
  exact mkM_congr fun a b _ _ => by split <;> simp_all
/-- One place is written. -/
theorem mkM_put {f : Nat → Nat → α} {i j : Nat} {v : α} : (mkM n f).set i (((List.range n).map (f i)).set j v) = mkM n (fun a b => if a = i ∧ b = j then v else f a b) := by
  rw [rowM_set, mkM_set]
  refine mkM_congr fun a b _ _ => ?_
  by_cases e : a = i
  · subst e; simp
  · simp [e]
/-- What stands at a place. -/
def entry (d : α) (m : List (List α)) (i j : Nat) : α := ((m[i]?).getD [])[j]?.getD d
theorem row_mk (d : α) {l : List α} (h : l.length = n) : l = (List.range n).map (fun j => l[j]?.getD d) := by
  refine List.ext_getElem? fun k => ?_
  by_cases hk : k < n
  · rw [rowM_get hk, List.getElem?_eq_getElem (by omega)]; rfl
  · rw [List.getElem?_eq_none (by omega), List.getElem?_eq_none (by simpa using hk)]
theorem mk_entry (d : α) {m : List (List α)} (h : m.length = n) (hr : ∀ r ∈ m, r.length = n) : m = mkM n (entry d m) := by
  refine List.ext_getElem? fun k => ?_
  by_cases hk : k < n
  · rw [mkM_get hk, List.getElem?_eq_getElem (by omega)]
    rw [row_mk d (hr m[k] (List.getElem_mem (by omega)))]
    unfold entry
    rw [List.getElem?_eq_getElem (by omega)]
    simp
  · rw [List.getElem?_eq_none (by omega), List.getElem?_eq_none (by rw [mkM_len]; omega)]
theorem map_mkM {f : Nat → Nat → α} {g : α → β} : (mkM n f).map (List.map g) = mkM n (fun i j => g (f i j)) := by
  unfold mkM; rw [List.map_map]
  refine List.map_congr_left fun i _ => ?_
  simp only [Function.comp, List.map_map]
  rfl
theorem mem_mkM {f : Nat → Nat → α} {r : List α} (h : r ∈ mkM n f) : ∃ i, i < n ∧ r = (List.range n).map (f i) := by
  obtain ⟨i, hi, rfl⟩ := List.mem_map.1 h; exact ⟨i, List.mem_range.1 hi, rfl⟩
theorem mem_rowM {h : Nat → α} {v : α} (hv : v ∈ (List.range n).map h) : ∃ j, j < n ∧ v = h j := by
  obtain ⟨j, hj, rfl⟩ := List.mem_map.1 hv; exact ⟨j, List.mem_range.1 hj, rfl⟩
end
end Go.Sim

/- What is proved: floats as intervals and the unit matrix as own rows; the negative of an interval, the difference of two; the unit matrix less a matrix. -/
namespace Go.Sim.Ytlkpbnhinnhlfaa
open Go.RowKit Go.Proofs Go.Proofs.Try
theorem pointsR_ev {f : List (List Nat)} (hf : okFF f) (lf : f.length ≤ 9223372036854775807) (hB : floatsB f = true) : EvR_lin_Points f (ptsI f) := by
  refine walkR_lin_Points ?_
  unfold WR_lin_Points
  refine Call.mk (floats_ev hf lf) ?_
  rw [hB]
  have ht := floatsB_true hB
  refine Br.f rfl (Mk.le (by omega) (by omega) (Loop2.up f.length (fun i out => out = (f.take i).map (fun r => r.map ptI) ++ List.replicate (f.length - i) []) (by simp) ?_))
  rintro i out k hi rfl hk
  refine Br.d (fun hlt => At.nat (by omega) fun r hr => ?_) (fun hge => ?_)
  · have hr1 := hf r (List.mem_of_getElem? hr)
    have hr2 := ht.1 r (List.mem_of_getElem? hr)
    have hlt' : ((f.take i).map (fun r => r.map ptI)).length = i := by simp; omega
    refine Loop2.up r.length (fun j out => out = (f.take i).map (fun r => r.map ptI) ++ ((r.take j).map ptI) :: List.replicate (f.length - (i + 1)) []) (by rw [rep_mid (by omega)]; rfl) ?_
    rintro j out2 k2 hj rfl hk2
    refine Br.d (fun hlt2 => At.nat (by omega) fun v hv => At.nat (by simp; omega) fun z hz => ?_) (fun hge2 => ?_)
    · rw [get_mid hlt'] at hz
      cases hz
      have hv2 := hr2.2 v (List.mem_of_getElem? hv)
      refine Call.mk (point_ev (hr1.1 v (List.mem_of_getElem? hv)) hv2.n) (App.le (by omega) (by simp; omega) (Let.as _ (wi1 (by omega)) (hk2 _ (by omega) ?_)))
      rw [Int.toNat_natCast, set_mid hlt', take_snoc hv, List.map_append]; rfl
    · refine Let.as _ (wi1 (by omega)) (hk _ (by omega) ?_)
      rw [take_snoc hr, List.map_append, List.take_of_length_le (l := r) (by omega), List.append_assoc]; rfl
  · show _ = _
    have : i = f.length := by omega
    subst this
    rw [Nat.sub_self, List.take_of_length_le (Nat.le_refl _)]; simp [ptsI]
theorem unitL_mk (n : Nat) : unitL n = mkM n oneV := rfl
theorem oneV_lt (i j : Nat) : oneV i j < 18446744073709551616 := by unfold oneV; split <;> decide
theorem oneV_F (i j : Nat) : isF (oneV i j) := by unfold oneV; split <;> (unfold isF; decide)
/-- A square matrix of floats that are numbers. -/
structure SqF (n : Nat) (f : Nat → Nat → Nat) : Prop where
  lt : ∀ i j, i < n → j < n → f i j < 18446744073709551616
  fin : ∀ i j, i < n → j < n → isF (f i j)
theorem SqF.ff {n : Nat} {f : Nat → Nat → Nat} (hn : n ≤ 24) (h : ∀ i j, i < n → j < n → f i j < 18446744073709551616) : okFF (mkM n f) := fun r hr => by
  obtain ⟨i, hi, rfl⟩ := mem_mkM hr
  refine ⟨fun v hv => ?_, by rw [rowM_len]; omega⟩
  obtain ⟨j, hj, rfl⟩ := mem_rowM hv
  exact h i j hi hj
theorem headD_mk {α : Type} {n : Nat} (h : 1 ≤ n) (f : Nat → Nat → α) : ((mkM n f).headD []) = (List.range n).map (f 0) := by
  obtain ⟨m, rfl⟩ : ∃ m, n = m + 1 := ⟨n - 1, by omega⟩
  unfold mkM
  rw [List.range_succ_eq_map]
  rfl
theorem SqF.floats {n : Nat} {f : Nat → Nat → Nat} (h1 : 1 ≤ n) (hn : n ≤ 24) (h : SqF n f) : floatsB (mkM n f) = true := by
  unfold floatsB
  rw [headD_mk h1, rowM_len, mkM_len]
  simp only [Bool.and_eq_true, List.all_eq_true, decide_eq_true_iff]
  refine ⟨fun r hr => ?_, ⟨h1, hn⟩, h1, hn⟩
  obtain ⟨i, hi, rfl⟩ := mem_mkM hr
  unfold rowF
  simp only [Bool.and_eq_true, List.all_eq_true, decide_eq_true_iff, rowM_len, true_and]
  intro v hv
  obtain ⟨j, hj, rfl⟩ := mem_rowM hv
  exact h.fin i j hi hj
theorem oneR_ev {n : Nat} (h1 : 1 ≤ n) (hn : n ≤ 24) : EvR_lin_One (n : Int) (mkM n fun i j => ptI (oneV i j)) := by
  refine walkR_lin_One ?_
  unfold WR_lin_One
  have hq : SqF n oneV := ⟨fun i j _ _ => oneV_lt i j, fun i j _ _ => oneV_F i j⟩
  refine Br.dF (by omega) (Br.dF (by omega) (Call.mk (unit_ev hn) (Call.mk (pointsR_ev (f := unitL n) (SqF.ff hn hq.lt) (by rw [unit_len]; omega) (hq.floats h1 hn)) ?_)))
  show _ = _
  rw [unitL_mk, ptsI, map_mkM]
/-! ### Negatives -/
theorem negW_hi {x : Nat} (h : 9223372036854775808 ≤ x) (h2 : x < 18446744073709551616) : Op.negFloat .f64 x = x - 9223372036854775808 := by
  have : Op.negFloat .f64 (x - 9223372036854775808) = x := by rw [negF (by omega)]; omega
  have e : ∀ y, Op.negFloat .f64 (Op.negFloat .f64 y) = y := fun y => by
    show (y ^^^ _) ^^^ _ = y
    rw [Nat.xor_assoc, Nat.xor_self, Nat.xor_zero]
  rw [← this, e]; omega
theorem negW_I {b : Nat} (h : b < 18446744073709551616) : fI (Op.negFloat .f64 b) = -fI b := by
  by_cases c : b < 9223372036854775808
  · rw [negF c]; unfold fI; rw [if_neg (by omega), if_pos c]; omega
  · rw [negW_hi (by omega) h]; unfold fI; rw [if_pos (by omega), if_neg c]; omega
theorem negW_N {b : Nat} (h : b < 18446744073709551616) (hn : isN b) : isN (Op.negFloat .f64 b) := by
  unfold isN at hn ⊢; rw [negW_I h]; omega
def negI (x : GIval) : GIval := if RIp x then makeI (Op.negFloat .f64 x.Hi) (Op.negFloat .f64 x.Lo) else EMP
def subI (x y : GIval) : GIval := addI x (negI y)
theorem ok_neg {x : GIval} (h : okI x) : okI (negI x) := by
  unfold negI; split
  · exact ok_make (negF_lt h.2) (negF_lt h.1)
  · exact ok_emp
theorem ok_sub {x y : GIval} (hx : okI x) (hy : okI y) : okI (subI x y) := ok_add hx (ok_neg hy)
theorem ineg_ev {x : GIval} (h : okI x) : Ev_ival_Neg x (negI x) := by
  refine walk_ival_Neg ?_
  unfold W_ival_Neg
  refine Call.mk (none_evX (l := [x]) (fun z hz => by simp at hz; subst hz; exact h) (by simp)) ?_
  have e : [x].any noneB = !decide (RIp x) := by simp [noneB]
  rw [e]
  unfold negI
  by_cases hr : RIp x
  · rw [if_pos hr]
    exact Br.f (by simp [hr]) (Let.it (Let.it (Call.mk (make_evX (negF_lt h.2) (negF_lt h.1) (negW_N h.2 hr.2.1) (negW_N h.1 hr.1)) rfl)))
  · rw [if_neg hr]
    exact Br.t (by simp [hr]) (Call.mk empty_ev rfl)
theorem isub_ev {x y : GIval} (hx : okI x) (hy : okI y) : Ev_ival_Sub x y (subI x y) := by
  refine walk_ival_Sub ?_
  unfold W_ival_Sub
  exact Call.mk (ineg_ev hy) (Call.mk (iadd_evX hx (ok_neg hy)) rfl)
theorem ok_pt {v : Nat} (h : v < 18446744073709551616) : okI (ptI v) := ok_make h h
/-- The unit matrix less a matrix. -/
theorem lessOne_ev {n : Nat} (h1 : 1 ≤ n) (hn : n ≤ 24) {f : Nat → Nat → GIval} (hf : ∀ i j, i < n → j < n → okI (f i j)) : Ev_lin_lessOne (mkM n f) (mkM n fun i j => subI (ptI (oneV i j)) (f i j)) := by
  refine walk_lin_lessOne ?_
  unfold W_lin_lessOne
  rw [mkM_len]
  refine Call.mk (oneR_ev h1 hn) ?_
  rw [mkM_len]
  refine Loop2.up n (fun i out => out = mkM n fun a b => if a < i then subI (ptI (oneV a b)) (f a b) else ptI (oneV a b)) (mkM_congr fun a b _ _ => by simp) ?_
  rintro i out k hi rfl hk
  refine Br.d (fun hlt => At.nat (by rw [mkM_len]; omega) fun r hr => ?_) (fun hge => ?_)
  · have hin : i < n := by omega
    rw [mkM_get hin] at hr
    cases hr
    rw [Int.toNat_natCast, mkM_same, rowM_len]
    refine Loop2.up n (fun j out => out = mkM n fun a b => if a < i ∨ a = i ∧ b < j then subI (ptI (oneV a b)) (f a b) else ptI (oneV a b)) (mkM_congr fun a b _ _ => by simp) ?_
    rintro j out k2 hj rfl hk2
    refine Br.d (fun hlt2 => ?_) (fun hge2 => ?_)
    · have hjn : j < n := by omega
      refine At.nat (by rw [mkM_len]; omega) fun r hr => ?_
      rw [mkM_get hin] at hr
      cases hr
      refine At.nat (by rw [rowM_len]; omega) fun x hx => ?_
      rw [rowM_get hjn] at hx
      cases hx
      rw [if_neg (by omega)]
      refine At.nat (by rw [mkM_len]; omega) fun r hr => ?_
      rw [mkM_get hin] at hr
      cases hr
      refine At.nat (by rw [rowM_len]; omega) fun y hy => ?_
      rw [rowM_get hjn] at hy
      cases hy
      refine Call.mk (isub_ev (ok_pt (oneV_lt i j)) (hf i j hin hjn)) (At.nat (by rw [rowM_len]; omega) fun z _ => Let.as _ (wi1 (by omega)) (hk2 _ (by omega) ?_))
      refine (mkM_put (j := j) (f := fun a b => if a < i ∨ a = i ∧ b < j then subI (ptI (oneV a b)) (f a b) else ptI (oneV a b))).trans ?_
      refine mkM_congr fun a b _ _ => ?_
      by_cases e : a = i ∧ b = j
      · obtain ⟨rfl, rfl⟩ := e; simp
      · rw [if_neg e]
        by_cases c : a < i ∨ a = i ∧ b < j
        · rw [if_pos c, if_pos (by omega)]
        · rw [if_neg c, if_neg (by omega)]
    · refine Let.as _ (wi1 (by omega)) (hk _ (by omega) ?_)
      refine mkM_congr fun a b _ hb => ?_
      by_cases c : a < i + 1
      · rw [if_pos c, if_pos (by omega)]
      · rw [if_neg c, if_neg (by omega)]
  · show _ = _
    exact mkM_congr fun a b ha _ => by rw [if_pos (by omega)]
end Go.Sim.Ytlkpbnhinnhlfaa
