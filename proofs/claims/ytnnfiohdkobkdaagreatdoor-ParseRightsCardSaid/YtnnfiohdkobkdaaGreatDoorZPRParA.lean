/- What is proved: how deep a tree is, and how many nodes it has, as the program and the reference tell; tests of lists of trees. -/
import Derived.Test.YtnnfiohdkobkdaaGreatDoorZPRWPr
import Derived.Test.YtnnfiohdkobkdaaGreatDoorZPRListK

namespace Go.Sim.YtnnfiohdkobkdaaGreatDoor
open Go.RowKit Go.Proofs Go.Proofs.Tryz
theorem indexTree_ev {s : List GTree} {f : DV} {p : GTree → Bool} (hs : s.length ≤ maxLen) (hf : ∀ t ∈ s, FVal prog f [GTree.out t] (.v (.bool (p t)))) : Ev_slices_IndexFunc_api_Tree s f (firstAt p s) := by
  have hm : maxLen = 9223372036854775807 := rfl
  refine walk_slices_IndexFunc_api_Tree ?_
  unfold W_slices_IndexFunc_api_Tree
  refine Loop1.first s p ?_
  intro i k hi hP hk
  refine Br.d (fun h => At.nat (by omega) fun x hx => Call.mk (hf x (List.mem_of_getElem? hx)) ⟨fun hp => ?_, fun hp => ?_⟩) (fun h => ?_)
  · exact (firstAt_is hx hp hP).symm
  · exact Let.as _ (wi1 (by omega)) (hk x hx hp)
  · exact (firstAt_no fun j y hj => hP j y (by omega)).symm
theorem containsTree_ev {s : List GTree} {f : DV} {p : GTree → Bool} (hs : s.length ≤ maxLen) (hf : ∀ t ∈ s, FVal prog f [GTree.out t] (.v (.bool (p t)))) : Ev_slices_ContainsFunc_api_Tree s f (s.any p) := by
  refine walk_slices_ContainsFunc_api_Tree ?_
  unfold W_slices_ContainsFunc_api_Tree
  exact Call.mk (indexTree_ev hs hf) (firstAt_any p s)
theorem indexInt_ev {s : List Int} {v : Int} (hs : s.length ≤ maxLen) : Ev_slices_Index_int s v (firstAt (fun x => v == x) s) := by
  have hm : maxLen = 9223372036854775807 := rfl
  refine walk_slices_Index_int ?_
  unfold W_slices_Index_int
  refine Loop1.first s (fun x => v == x) ?_
  intro i k hi hP hk
  refine Br.d (fun h => At.nat (by omega) fun x hx => ⟨fun hp => ?_, fun hp => ?_⟩) (fun h => ?_)
  · exact (firstAt_is hx hp hP).symm
  · exact Let.as _ (wi1 (by omega)) (hk x hx hp)
  · exact (firstAt_no fun j y hj => hP j y (by omega)).symm
theorem containsInt_ev {s : List Int} {v : Int} (hs : s.length ≤ maxLen) : Ev_slices_Contains_int s v (s.any (fun x => v == x)) := by
  refine walk_slices_Contains_int ?_
  unfold W_slices_Contains_int
  exact Call.mk (indexInt_ev hs) (firstAt_any _ s)
/-! ### How deep -/
mutual
def dep : GTree → Nat
  | ⟨_, _, _, _, _, _, _, ks⟩ => depL ks + 1
def depL : List GTree → Nat
  | [] => 0
  | t :: ts => max (dep t) (depL ts)
end
theorem dep_eq (t : GTree) : dep t = depL t.Kids + 1 := by cases t; simp only [dep]
theorem dep_pos (t : GTree) : 1 ≤ dep t := by rw [dep_eq]; omega
mutual
def siz : GTree → Nat
  | ⟨_, _, _, _, _, _, _, ks⟩ => sizL ks + 1
def sizL : List GTree → Nat
  | [] => 0
  | t :: ts => siz t + sizL ts
end
theorem siz_eq (t : GTree) : siz t = sizL t.Kids + 1 := by cases t; simp only [siz]
theorem siz_pos (t : GTree) : 1 ≤ siz t := by rw [siz_eq]; omega
theorem depL_append : ∀ (xs ys : List GTree), depL (xs ++ ys) = max (depL xs) (depL ys)
  | [], ys => by simp [depL]
  | x :: xs, ys => by simp only [List.cons_append, depL, depL_append xs ys]; omega
theorem sizL_append : ∀ (xs ys : List GTree), sizL (xs ++ ys) = sizL xs + sizL ys
  | [], ys => by simp [sizL]
  | x :: xs, ys => by simp only [List.cons_append, sizL, sizL_append xs ys]; omega
theorem depL_take {xs : List GTree} {i : Nat} {x : GTree} (h : xs[i]? = some x) : depL (xs.take (i + 1)) = max (depL (xs.take i)) (dep x) := by
  rw [List.take_add_one, h, depL_append]; simp [depL]
theorem sizL_take {xs : List GTree} {i : Nat} {x : GTree} (h : xs[i]? = some x) : sizL (xs.take (i + 1)) = sizL (xs.take i) + siz x := by
  rw [List.take_add_one, h, sizL_append]; simp [sizL]
theorem depL_le (xs : List GTree) (i : Nat) : depL (xs.take i) ≤ depL xs := by
  have := depL_append (xs.take i) (xs.drop i)
  rw [List.take_append_drop] at this; omega
theorem sizL_le (xs : List GTree) (i : Nat) : sizL (xs.take i) ≤ sizL xs := by
  have := sizL_append (xs.take i) (xs.drop i)
  rw [List.take_append_drop] at this; omega
theorem sizL_len : ∀ xs : List GTree, xs.length ≤ sizL xs
  | [] => Nat.le_refl _
  | x :: xs => by have := sizL_len xs; have := siz_pos x; simp only [List.length_cons, sizL]; omega
theorem siz_mem : ∀ {xs : List GTree} {x : GTree}, x ∈ xs → siz x ≤ sizL xs
  | y :: ys, x, h => by
    rcases List.mem_cons.1 h with rfl | h
    · simp only [sizL]; omega
    · have := siz_mem h; simp only [sizL]; omega
theorem any_dep (n : Nat) : ∀ xs : List GTree, xs.any (fun k => decide (n < dep k)) = decide (n < depL xs)
  | [] => by simp [depL]
  | x :: xs => by
    rw [List.any_cons, any_dep n xs, Bool.eq_iff_iff, show depL (x :: xs) = max (dep x) (depL xs) from rfl]
    simp only [Bool.or_eq_true, decide_eq_true_eq]
    omega
theorem kids_le {t : GTree} (h : t.ok) : t.Kids.length ≤ maxLen := ((GTree.ok_iff t).1 h).2.2.2.2.2.2.1
theorem kids_ok {t : GTree} (h : t.ok) : ∀ k ∈ t.Kids, k.ok := ((GTree.ok_iff t).1 h).2.2.2.2.2.2.2
theorem deep_ev : ∀ (n : Nat) (t : GTree), t.ok → n ≤ 100000 → Ev_parse_deep t (n : Int) (decide (n < dep t))
  | 0, t, ht, _ => by
    refine walk_parse_deep ?_
    unfold W_parse_deep
    refine Br.eT rfl ?_
    have := dep_pos t
    exact (decide_eq_true (by omega)).symm
  | n + 1, t, ht, hn => by
    refine walk_parse_deep ?_
    unfold W_parse_deep
    refine Br.eF (by omega) (Call.mk (containsTree_ev (p := fun k => decide (n < dep k)) (kids_le ht) fun k hk => call_parse_deep_1 (walk_parse_deep_1 ?_)) ?_)
    · unfold W_parse_deep_1
      exact Let.as (n : Int) (by rw [wi (by omega) (by omega)]; omega) (Call.mk (deep_ev n k (kids_ok ht k hk) (by omega)) rfl)
    · show _ = _
      rw [any_dep, dep_eq, Bool.eq_iff_iff]
      simp only [decide_eq_true_eq]; omega
theorem nodes_ev (m : Nat) (t : GTree) (ht : t.ok) (hm : m ≤ 100000) : Ev_parse_nodes t (m : Int) ((min (siz t) (m + 1) : Nat) : Int) := by
  have hml : maxLen = 9223372036854775807 := rfl
  have hk := kids_le ht
  refine walk_parse_nodes ?_
  unfold W_parse_nodes
  refine Loop2.up t.Kids.length (fun i n => n = ((min (1 + sizL (t.Kids.take i)) (m + 1) : Nat) : Int)) (by simp [sizL]) ?_
  rintro i _ k hi rfl hk2
  refine Br.d (fun h => At.nat (by omega) fun x hx => Br.d (fun hb => ?_) (fun hb => ?_)) (fun h => ?_)
  · show _ = _
    have := sizL_le t.Kids i
    have := siz_eq t
    omega
  · obtain ⟨a, ha⟩ : ∃ a, a = 1 + sizL (t.Kids.take i) := ⟨_, rfl⟩
    rw [← ha] at hb ⊢
    have ha1 : a ≤ m := by omega
    have e : min a (m + 1) = a := by omega
    rw [e]
    refine Let.as ((m - a : Nat) : Int) (by rw [wi (by omega) (by omega)]; omega) (Call.mk (nodes_ev (m - a) x (kids_ok ht x (List.mem_of_getElem? hx)) (by omega)) (Let.as ((a + min (siz x) (m - a + 1) : Nat) : Int) (by rw [wi (by omega) (by omega)]; omega) (Let.as _ (wi1 (by omega)) (hk2 _ (by omega) ?_))))
    rw [sizL_take hx]; omega
  · show _ = _
    have : i = t.Kids.length := by omega
    subst this
    rw [List.take_length, siz_eq]; omega
termination_by m
decreasing_by omega
theorem refDeep_ev : ∀ (m : Nat) (t : GTree), t.ok → m ≤ 100000 → Ev_ref13_Deep t (m : Int) ((min (dep t) m : Nat) : Int)
  | 0, t, _, _ => by
    refine walk_ref13_Deep ?_
    unfold W_ref13_Deep
    exact Br.dT (by omega) (by rw [Nat.min_zero])
  | 1, t, _, _ => by
    refine walk_ref13_Deep ?_
    unfold W_ref13_Deep
    have := dep_pos t
    exact Br.dT (by omega) (by show _ = _; omega)
  | m + 2, t, ht, hm => by
    have hml : maxLen = 9223372036854775807 := rfl
    have hk := kids_le ht
    refine walk_ref13_Deep ?_
    unfold W_ref13_Deep
    refine Br.dF (by omega) (Loop2.up t.Kids.length (fun i n => depL (t.Kids.take i) ≤ m ∧ n = ((depL (t.Kids.take i) : Nat) : Int)) (by simp [depL]) ?_)
    rintro i _ k hi ⟨hd, rfl⟩ hk2
    have hstep : IntKind.i64.wrap (((m + 2 : Nat) : Int) - 1) = ((m + 1 : Nat) : Int) := by rw [wi (by omega) (by omega)]; omega
    refine Br.d (fun h => At.nat (by omega) fun x hx => Let.as _ hstep (Call.mk (refDeep_ev (m + 1) x (kids_ok ht x (List.mem_of_getElem? hx)) (by omega)) ⟨fun n => n = ((max (depL (t.Kids.take i)) (min (dep x) (m + 1)) : Nat) : Int), ?_, ?_⟩)) (fun h => ?_)
    · refine Br.d (fun hb => ?_) (fun hb => ?_)
      · show _ = _; omega
      · show _ = _; omega
    · rintro _ rfl
      refine Let.as _ hstep (Br.d (fun hb => ?_) (fun hb => Let.as _ (wi1 (by omega)) (hk2 _ (by omega) ?_)))
      · show _ = _
        have h1 := depL_le t.Kids (i + 1)
        rw [depL_take hx] at h1
        have := dep_eq t
        omega
      · rw [depL_take hx]; omega
    · have : i = t.Kids.length := by omega
      subst this
      rw [List.take_length] at hd ⊢
      refine Let.as ((depL t.Kids + 1 : Nat) : Int) (by rw [wi (by omega) (by omega)]; omega) ?_
      show _ = _
      rw [dep_eq]; omega
theorem refNodes_ev (m : Nat) (t : GTree) (ht : t.ok) (h1 : 1 ≤ m) (hm : m ≤ 100000) : Ev_ref13_Nodes t (m : Int) ((min (siz t) m : Nat) : Int) := by
  have hml : maxLen = 9223372036854775807 := rfl
  have hk := kids_le ht
  refine walk_ref13_Nodes ?_
  unfold W_ref13_Nodes
  refine Loop2.up t.Kids.length (fun i n => n = ((min (1 + sizL (t.Kids.take i)) m : Nat) : Int)) (by simp [sizL]; omega) ?_
  rintro i _ k hi rfl hk2
  refine Br.d (fun h => At.nat (by omega) fun x hx => Br.d (fun hb => ?_) (fun hb => ?_)) (fun h => ?_)
  · show _ = _
    have := sizL_le t.Kids i
    have := siz_eq t
    omega
  · obtain ⟨a, ha⟩ : ∃ a, a = 1 + sizL (t.Kids.take i) := ⟨_, rfl⟩
    rw [← ha] at hb ⊢
    have ha1 : a < m := by omega
    have e : min a m = a := by omega
    rw [e]
    refine Let.as ((m - a : Nat) : Int) (by rw [wi (by omega) (by omega)]; omega) (Call.mk (refNodes_ev (m - a) x (kids_ok ht x (List.mem_of_getElem? hx)) (by omega) (by omega)) (Let.as ((a + min (siz x) (m - a) : Nat) : Int) (by rw [wi (by omega) (by omega)]; omega) (Let.as _ (wi1 (by omega)) (hk2 _ (by omega) ?_))))
    rw [sizL_take hx]; omega
  · have : i = t.Kids.length := by omega
    subst this
    rw [List.take_length]
    have := siz_eq t
    refine Br.d (fun hb => ?_) (fun hb => ?_)
    · show _ = _; omega
    · show _ = _; omega
termination_by m
decreasing_by omega
end Go.Sim.YtnnfiohdkobkdaaGreatDoor
