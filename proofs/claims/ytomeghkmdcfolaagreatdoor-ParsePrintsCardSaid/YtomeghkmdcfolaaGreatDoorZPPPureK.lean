/- What is proved: laws of loops that count up, in the words of the printed statements. -/
import Derived.Test.YtomeghkmdcfolaaGreatDoorZPPSimE
import Derived.Test.YtomeghkmdcfolaaGreatDoorZPPBig
import Derived.Laws.Strings
import Derived.Test.YtomeghkmdcfolaaGreatDoorZPPWPr

namespace Go.Sim
open Go.RowKit
theorem wi1 {i : Nat} (h : i + 1 <= 9223372036854775807) : IntKind.i64.wrap ((i : Int) + 1) = ((i + 1 : Nat) : Int) := by
 rw [wi (by omega) (by omega)]; omega
theorem Loop1.up {b : Int -> (Int -> Prop) -> Prop} (n : Nat) (P : Nat -> Prop) (h0 : P 0) (st : ∀ (i : Nat) (k : Int -> Prop), i <= n -> P i -> (i + 1 <= n -> P (i + 1) -> k ((i + 1 : Nat) : Int)) -> b (i : Int) k) : Loop1 (0 : Int) b := by
 refine ⟨fun z => ∃ j : Nat, z = (j : Int) /\ j <= n /\ P j, fun z => n - z.toNat, ⟨0, rfl, Nat.zero_le _, h0⟩, ?_⟩
 rintro _ ⟨j, rfl, hj, hP⟩
 refine st j _ hj hP fun h1 h2 => ⟨⟨j + 1, rfl, h1, h2⟩, ?_⟩
 simp only [Int.toNat_natCast]; omega
theorem Loop2.up {α : Type} {s0 : α} {b : α -> Int -> (α -> Int -> Prop) -> Prop} (n : Nat) (P : Nat -> α -> Prop) (h0 : P 0 s0) (st : ∀ (i : Nat) (s : α) (k : α -> Int -> Prop), i <= n -> P i s -> (∀ s', i + 1 <= n -> P (i + 1) s' -> k s' ((i + 1 : Nat) : Int)) -> b s (i : Int) k) : Loop2 s0 (0 : Int) b := by
 refine ⟨fun s z => ∃ j : Nat, z = (j : Int) /\ j <= n /\ P j s, fun _ z => n - z.toNat, ⟨0, rfl, Nat.zero_le _, h0⟩, ?_⟩
 rintro s _ ⟨j, rfl, hj, hP⟩
 refine st j s _ hj hP fun s' h1 h2 => ⟨⟨j + 1, rfl, h1, h2⟩, ?_⟩
 simp only [Int.toNat_natCast]; omega
theorem At.nat {α : Type} {xs : List α} {i : Nat} {k : α -> Prop} (h : i < xs.length) (hk : ∀ x, xs[i]? = some x -> k x) : At xs (i : Int) k :=
 ⟨by omega, xs[i], by rw [Int.toNat_natCast]; exact List.getElem?_eq_getElem h, hk _ (List.getElem?_eq_getElem h)⟩
theorem beq_str {a b : ByteArray} : (a.toList == b.toList) = true ↔ a = b := by
 rw [beq_iff_eq, ByteArray.toList_eq, ByteArray.toList_eq]
 exact ⟨fun h => ByteArray.ext (Array.ext' h), fun h => by rw [h]⟩
end Go.Sim

/- What is proved: laws of searches through lists. -/
namespace Go.Sim
def firstAt {α : Type} (p : α -> Bool) (xs : List α) : Int := match xs.findIdx? p with | some i => (i : Int) | none => -1
theorem firstAt_is {α : Type} {p : α -> Bool} {xs : List α} {i : Nat} {x : α} (hx : xs[i]? = some x) (hp : p x = true) (hP : ∀ j y, j < i -> xs[j]? = some y -> p y = false) : firstAt p xs = (i : Int) := by
 have : xs.findIdx? p = some i := by
  rw [List.findIdx?_eq_some_iff_getElem]
  obtain ⟨h1, h2⟩ := List.getElem?_eq_some_iff.1 hx
  refine ⟨h1, by rw [h2]; exact hp, fun j hj => ?_⟩
  have := hP j (xs[j]'(by omega)) hj (List.getElem?_eq_getElem _)
  simp [this]
 unfold firstAt; rw [this]
theorem firstAt_no {α : Type} {p : α -> Bool} {xs : List α} (hP : ∀ j y, j < xs.length -> xs[j]? = some y -> p y = false) : firstAt p xs = -1 := by
 have : xs.findIdx? p = none := by
  rw [List.findIdx?_eq_none_iff]
  intro x hx
  obtain ⟨j, hj⟩ := List.mem_iff_getElem?.1 hx
  exact hP j x (List.getElem?_eq_some_iff.1 hj).1 hj
 unfold firstAt; rw [this]
theorem upto_next {α : Type} {p : α -> Bool} {xs : List α} {i : Nat} {x : α} (hx : xs[i]? = some x) (hp : p x = false) (hP : ∀ j y, j < i -> xs[j]? = some y -> p y = false) : ∀ j y, j < i + 1 -> xs[j]? = some y -> p y = false := by
 intro j y hj hy
 by_cases e : j = i
 ·subst e; rw [hx] at hy; cases hy; exact hp
 ·exact hP j y (by omega) hy
theorem firstAt_any {α : Type} (p : α -> Bool) (xs : List α) : decide (firstAt p xs >= 0) = xs.any p := by
 unfold firstAt
 cases he : xs.findIdx? p with
 | none =>
  rw [List.findIdx?_eq_none_iff] at he
  rw [Bool.eq_iff_iff, decide_eq_true_iff, List.any_eq_true]
  constructor
  ·intro h; simp only [] at h; omega
  ·rintro ⟨x, hx, h⟩
   rw [he x hx] at h; cases h
 | some i =>
  rw [List.findIdx?_eq_some_iff_getElem] at he
  obtain ⟨h0, h2, _⟩ := he
  rw [Bool.eq_iff_iff, decide_eq_true_iff, List.any_eq_true]
  exact ⟨fun _ => ⟨xs[i], List.getElem_mem h0, h2⟩, fun _ => by simp only []; omega⟩
theorem Loop1.first {α : Type} {b : Int -> (Int -> Prop) -> Prop} (xs : List α) (p : α -> Bool)
    (st : ∀ (i : Nat) (k : Int -> Prop), i <= xs.length -> (∀ j y, j < i -> xs[j]? = some y -> p y = false) -> (∀ x, xs[i]? = some x -> p x = false -> k ((i + 1 : Nat) : Int)) -> b (i : Int) k) : Loop1 (0 : Int) b := by
  refine Loop1.up xs.length (fun i => ∀ j y, j < i -> xs[j]? = some y -> p y = false) (by intro j x h; omega) ?_
  intro i k hi hP hk
  refine st i k hi hP fun x hx hp => hk (by have := (List.getElem?_eq_some_iff.1 hx).1; omega) (upto_next hx hp hP)
end Go.Sim

/- What is proved: how deep a tree is, and how many nodes it has, as the program and the reference tell; tests of lists of trees. -/
namespace Go.Sim.YtomeghkmdcfolaaGreatDoor
open Go.RowKit Go.Proofs Go.Proofs.Tryz
theorem indexTree_ev {s : List GTree} {f : DV} {p : GTree -> Bool} (hs : s.length <= maxLen) (hf : ∀ t ∈ s, FVal prog f [GTree.out t] (.v (.bool (p t)))) : Ev_slices_IndexFunc_api_Tree s f (firstAt p s) := by
 have hm : maxLen = 9223372036854775807 := rfl
 refine walk_slices_IndexFunc_api_Tree ?_
 unfold W_slices_IndexFunc_api_Tree
 refine Loop1.first s p ?_
 intro i k hi hP hk
 refine Br.d (fun h => At.nat (by omega) fun x hx => Call.mk (hf x (List.mem_of_getElem? hx)) ⟨fun hp => ?_, fun hp => ?_⟩) (fun h => ?_)
 ·exact (firstAt_is hx hp hP).symm
 ·exact Let.as _ (wi1 (by omega)) (hk x hx hp)
 ·exact (firstAt_no fun j y hj => hP j y (by omega)).symm
theorem containsTree_ev {s : List GTree} {f : DV} {p : GTree -> Bool} (hs : s.length <= maxLen) (hf : ∀ t ∈ s, FVal prog f [GTree.out t] (.v (.bool (p t)))) : Ev_slices_ContainsFunc_api_Tree s f (s.any p) := by
 refine walk_slices_ContainsFunc_api_Tree ?_
 unfold W_slices_ContainsFunc_api_Tree
 exact Call.mk (indexTree_ev hs hf) (firstAt_any p s)
theorem indexInt_ev {s : List Int} {v : Int} (hs : s.length <= maxLen) : Ev_slices_Index_int s v (firstAt (fun x => v == x) s) := by
 have hm : maxLen = 9223372036854775807 := rfl
 refine walk_slices_Index_int ?_
 unfold W_slices_Index_int
 refine Loop1.first s (fun x => v == x) ?_
 intro i k hi hP hk
 refine Br.d (fun h => At.nat (by omega) fun x hx => ⟨fun hp => ?_, fun hp => ?_⟩) (fun h => ?_)
 ·exact (firstAt_is hx hp hP).symm
 ·exact Let.as _ (wi1 (by omega)) (hk x hx hp)
 ·exact (firstAt_no fun j y hj => hP j y (by omega)).symm
theorem containsInt_ev {s : List Int} {v : Int} (hs : s.length <= maxLen) : Ev_slices_Contains_int s v (s.any (fun x => v == x)) := by
 refine walk_slices_Contains_int ?_
 unfold W_slices_Contains_int
 exact Call.mk (indexInt_ev hs) (firstAt_any _ s)
mutual
def dep : GTree -> Nat
 | ⟨_, _, _, _, _, _, _, ks⟩ => depL ks + 1
def depL : List GTree -> Nat
 | [] => 0
 | t :: ts => max (dep t) (depL ts)
end
theorem dep_eq (t : GTree) : dep t = depL t.Kids + 1 := by cases t; simp only [dep]
theorem dep_pos (t : GTree) : 1 <= dep t := by rw [dep_eq]; omega
mutual
def siz : GTree -> Nat
 | ⟨_, _, _, _, _, _, _, ks⟩ => sizL ks + 1
def sizL : List GTree -> Nat
 | [] => 0
 | t :: ts => siz t + sizL ts
end
theorem siz_eq (t : GTree) : siz t = sizL t.Kids + 1 := by cases t; simp only [siz]
theorem siz_pos (t : GTree) : 1 <= siz t := by rw [siz_eq]; omega
theorem depL_append : ∀ (xs ys : List GTree), depL (xs ++ ys) = max (depL xs) (depL ys)
 | [], ys => by simp [depL]
 | x :: xs, ys => by simp only [List.cons_append, depL, depL_append xs ys]; omega
theorem sizL_append : ∀ (xs ys : List GTree), sizL (xs ++ ys) = sizL xs + sizL ys
 | [], ys => by simp [sizL]
 | x :: xs, ys => by simp only [List.cons_append, sizL, sizL_append xs ys]; omega
theorem depL_take {xs : List GTree} {i : Nat} {x : GTree} (h : xs[i]? = some x) : depL (xs.take (i + 1)) = max (depL (xs.take i)) (dep x) := by
 rw [List.take_add_one, h, depL_append]; simp [depL]
theorem sizL_take {xs : List GTree} {i : Nat} {x : GTree} (h : xs[i]? = some x) : sizL (xs.take (i + 1)) = sizL (xs.take i) + siz x := by
 rw [List.take_add_one, h, sizL_append]; simp [sizL]
theorem depL_le (xs : List GTree) (i : Nat) : depL (xs.take i) <= depL xs := by
 have := depL_append (xs.take i) (xs.drop i)
 rw [List.take_append_drop] at this; omega
theorem sizL_le (xs : List GTree) (i : Nat) : sizL (xs.take i) <= sizL xs := by
 have := sizL_append (xs.take i) (xs.drop i)
 rw [List.take_append_drop] at this; omega
theorem sizL_len : ∀ xs : List GTree, xs.length <= sizL xs
 | [] => Nat.le_refl _
 | x :: xs => by have := sizL_len xs; have := siz_pos x; simp only [List.length_cons, sizL]; omega
theorem siz_mem : ∀ {xs : List GTree} {x : GTree}, x ∈ xs -> siz x <= sizL xs
 | y :: ys, x, h => by
  rcases List.mem_cons.1 h with rfl | h
  ·simp only [sizL]; omega
  ·have := siz_mem h; simp only [sizL]; omega
theorem any_dep (n : Nat) : ∀ xs : List GTree, xs.any (fun k => decide (n < dep k)) = decide (n < depL xs)
 | [] => by simp [depL]
 | x :: xs => by
  rw [List.any_cons, any_dep n xs, Bool.eq_iff_iff, show depL (x :: xs) = max (dep x) (depL xs) from rfl]
  simp only [Bool.or_eq_true, decide_eq_true_eq]
  omega
theorem kids_le {t : GTree} (h : t.ok) : t.Kids.length <= maxLen := ((GTree.ok_iff t).1 h).2.2.2.2.2.2.1
theorem kids_ok {t : GTree} (h : t.ok) : ∀ k ∈ t.Kids, k.ok := ((GTree.ok_iff t).1 h).2.2.2.2.2.2.2
theorem deep_ev : ∀ (n : Nat) (t : GTree), t.ok -> n <= 100000 -> Ev_parse_deep t (n : Int) (decide (n < dep t))
 | 0, t, ht, _ => by
  refine walk_parse_deep ?_
  unfold W_parse_deep
  refine Br.eT rfl ?_
  have := dep_pos t
  exact (decide_eq_true (by omega)).symm
 | n + 1, t, ht, hn => by
  refine walk_parse_deep ?_
  unfold W_parse_deep
  refine Br.eF (by omega) (Call.mk (containsTree_ev (p := fun k => decide (n < dep k)) (kids_le ht) fun k hk => call_parse_deep_1 (walk_parse_deep_1 ?_)) ?_)
  ·unfold W_parse_deep_1
   exact Let.as (n : Int) (by rw [wi (by omega) (by omega)]; omega) (Call.mk (deep_ev n k (kids_ok ht k hk) (by omega)) rfl)
  ·show _ = _
   rw [any_dep, dep_eq, Bool.eq_iff_iff]
   simp only [decide_eq_true_eq]; omega
theorem nodes_ev (m : Nat) (t : GTree) (ht : t.ok) (hm : m <= 100000) : Ev_parse_nodes t (m : Int) ((min (siz t) (m + 1) : Nat) : Int) := by
 have hml : maxLen = 9223372036854775807 := rfl
 have hk := kids_le ht
 refine walk_parse_nodes ?_
 unfold W_parse_nodes
 refine Loop2.up t.Kids.length (fun i n => n = ((min (1 + sizL (t.Kids.take i)) (m + 1) : Nat) : Int)) (by simp [sizL]) ?_
 rintro i _ k hi rfl hk2
 refine Br.d (fun h => At.nat (by omega) fun x hx => Br.d (fun hb => ?_) (fun hb => ?_)) (fun h => ?_)
 ·show _ = _
  have := sizL_le t.Kids i
  have := siz_eq t
  omega
 ·obtain ⟨a, ha⟩ : ∃ a, a = 1 + sizL (t.Kids.take i) := ⟨_, rfl⟩
  rw [← ha] at hb ⊢
  have ha1 : a <= m := by omega
  have e : min a (m + 1) = a := by omega
  rw [e]
  refine Let.as ((m - a : Nat) : Int) (by rw [wi (by omega) (by omega)]; omega) (Call.mk (nodes_ev (m - a) x (kids_ok ht x (List.mem_of_getElem? hx)) (by omega)) (Let.as ((a + min (siz x) (m - a + 1) : Nat) : Int) (by rw [wi (by omega) (by omega)]; omega) (Let.as _ (wi1 (by omega)) (hk2 _ (by omega) ?_))))
  rw [sizL_take hx]; omega
 ·show _ = _
  have : i = t.Kids.length := by omega
  subst this
  rw [List.take_length, siz_eq]; omega
termination_by m
decreasing_by omega
theorem refDeep_ev : ∀ (m : Nat) (t : GTree), t.ok -> m <= 100000 -> Ev_ref13_Deep t (m : Int) ((min (dep t) m : Nat) : Int)
 | 0, t, _, _ => by
  refine walk_ref13_Deep ?_
  unfold W_ref13_Deep
  exact Br.dT (by omega) (by rw [Nat.min_zero])
 | 1, t, _, _ => by
  refine walk_ref13_Deep ?_
  unfold W_ref13_Deep
  have := dep_pos t
  exact Br.dT (by omega) (by show _ = _; omega)
 | m + 2, t, ht, hm => by
  have hml : maxLen = 9223372036854775807 := rfl
  have hk := kids_le ht
  refine walk_ref13_Deep ?_
  unfold W_ref13_Deep
  refine Br.dF (by omega) (Loop2.up t.Kids.length (fun i n => depL (t.Kids.take i) <= m /\ n = ((depL (t.Kids.take i) : Nat) : Int)) (by simp [depL]) ?_)
  rintro i _ k hi ⟨hd, rfl⟩ hk2
  have hstep : IntKind.i64.wrap (((m + 2 : Nat) : Int) - 1) = ((m + 1 : Nat) : Int) := by rw [wi (by omega) (by omega)]; omega
  refine Br.d (fun h => At.nat (by omega) fun x hx => Let.as _ hstep (Call.mk (refDeep_ev (m + 1) x (kids_ok ht x (List.mem_of_getElem? hx)) (by omega)) ⟨fun n => n = ((max (depL (t.Kids.take i)) (min (dep x) (m + 1)) : Nat) : Int), ?_, ?_⟩)) (fun h => ?_)
  ·refine Br.d (fun hb => ?_) (fun hb => ?_)
   ·show _ = _; omega
   ·show _ = _; omega
  ·rintro _ rfl
   refine Let.as _ hstep (Br.d (fun hb => ?_) (fun hb => Let.as _ (wi1 (by omega)) (hk2 _ (by omega) ?_)))
   ·show _ = _
    have h1 := depL_le t.Kids (i + 1)
    rw [depL_take hx] at h1
    have := dep_eq t
    omega
   ·rw [depL_take hx]; omega
  ·have : i = t.Kids.length := by omega
   subst this
   rw [List.take_length] at hd ⊢
   refine Let.as ((depL t.Kids + 1 : Nat) : Int) (by rw [wi (by omega) (by omega)]; omega) ?_
   show _ = _
   rw [dep_eq]; omega
theorem refNodes_ev (m : Nat) (t : GTree) (ht : t.ok) (h1 : 1 <= m) (hm : m <= 100000) : Ev_ref13_Nodes t (m : Int) ((min (siz t) m : Nat) : Int) := by
 have hml : maxLen = 9223372036854775807 := rfl
 have hk := kids_le ht
 refine walk_ref13_Nodes ?_
 unfold W_ref13_Nodes
 refine Loop2.up t.Kids.length (fun i n => n = ((min (1 + sizL (t.Kids.take i)) m : Nat) : Int)) (by simp [sizL]; omega) ?_
 rintro i _ k hi rfl hk2
 refine Br.d (fun h => At.nat (by omega) fun x hx => Br.d (fun hb => ?_) (fun hb => ?_)) (fun h => ?_)
 ·show _ = _
  have := sizL_le t.Kids i
  have := siz_eq t
  omega
 ·obtain ⟨a, ha⟩ : ∃ a, a = 1 + sizL (t.Kids.take i) := ⟨_, rfl⟩
  rw [← ha] at hb ⊢
  have ha1 : a < m := by omega
  have e : min a m = a := by omega
  rw [e]
  refine Let.as ((m - a : Nat) : Int) (by rw [wi (by omega) (by omega)]; omega) (Call.mk (refNodes_ev (m - a) x (kids_ok ht x (List.mem_of_getElem? hx)) (by omega) (by omega)) (Let.as ((a + min (siz x) (m - a) : Nat) : Int) (by rw [wi (by omega) (by omega)]; omega) (Let.as _ (wi1 (by omega)) (hk2 _ (by omega) ?_))))
  rw [sizL_take hx]; omega
 ·have : i = t.Kids.length := by omega
  subst this
  rw [List.take_length]
  have := siz_eq t
  refine Br.d (fun hb => ?_) (fun hb => ?_)
  ·show _ = _; omega
  ·show _ = _; omega
termination_by m
decreasing_by omega
end Go.Sim.YtomeghkmdcfolaaGreatDoor

/- What is proved: which nodes may be, by themselves, as the program tells (shape_ev). -/
namespace Go.Sim.YtomeghkmdcfolaaGreatDoor
open Go.RowKit Go.Proofs Go.Proofs.Tryz
theorem all_ev {l : List GTree} {lo hi : Int} {f : DV} {p : GTree -> Bool} (hl : l.length <= maxLen) (hf : IsFn f) (h : ∀ t ∈ l, FVal prog f [GTree.out t] (.v (.bool (p t)))) :
    Ev_parse_all l lo hi f (decide (lo <= ((l.length : Nat) : Int)) && (decide (hi < 0) || decide (((l.length : Nat) : Int) <= hi)) && l.all p) := by
  have hc : Ev_slices_ContainsFunc_api_Tree l (Fn_parse_all_1 f) (l.any (fun t => !p t)) := containsTree_ev hl fun t ht => call_parse_all_1 (walk_parse_all_1 (by
    unfold W_parse_all_1
    exact ⟨hf, Call.mk (h t ht) rfl⟩))
  have e : (!(l.any fun t => !p t)) = l.all p := by
    rw [Bool.eq_iff_iff]; simp
  refine walk_parse_all ?_
  unfold W_parse_all
  refine ⟨hf, Br.d (fun h1 => Br.d (fun h2 => Call.mk hc ?_) (fun h2 => Br.d (fun h3 => Call.mk hc ?_) (fun h3 => ?_))) (fun h1 => ?_)⟩
  · show _ = _; rw [e, decide_eq_true (show lo <= _ from h1), decide_eq_true h2]; simp
  · show _ = _; rw [e, decide_eq_true (show lo <= _ from h1), decide_eq_true h3]; simp
  · show _ = _; rw [decide_eq_false h2, decide_eq_false h3]; simp
  · show _ = _; rw [decide_eq_false (show ¬ lo <= _ from h1)]; simp
def eachB : List (GTree -> Bool) -> List GTree -> Bool
 | [], [] => true
 | p :: ps, t :: ts => p t && eachB ps ts
 | _, _ => false
theorem each_ev {l : List GTree} {fs : List DV} {ps : List (GTree -> Bool)} (hl : l.length <= maxLen) (hn : fs.length = ps.length)
    (h : ∀ (i : Nat) (f : DV) (p : GTree -> Bool), fs[i]? = some f -> ps[i]? = some p -> IsFn f /\ ∀ t ∈ l, FVal prog f [GTree.out t] (.v (.bool (p t)))) : Ev_parse_each l fs (eachB ps l) := by
  have hm : maxLen = 9223372036854775807 := rfl
  refine walk_parse_each ?_
  unfold W_parse_each
  by_cases hlen : l.length = fs.length
  · refine Br.f (by simp [hlen]) (Loop1.up fs.length (fun i => eachB ps l = eachB (ps.drop i) (l.drop i)) rfl ?_)
    intro i k hi he hk
    refine Br.d (fun hlt => At.nat (by omega) fun f hf => ?_) (fun hge => ?_)
    · obtain ⟨p, hpi⟩ : ∃ p, ps[i]? = some p := ⟨_, List.getElem?_eq_getElem (by omega)⟩
      obtain ⟨h1, h2⟩ := h i f p hf hpi
      refine ⟨h1, At.nat (by omega) fun t ht => Call.mk (h2 t (List.mem_of_getElem? ht)) ?_⟩
      have hti := List.getElem?_eq_some_iff.1 ht
      have hpp := List.getElem?_eq_some_iff.1 hpi
      have ed : eachB (ps.drop i) (l.drop i) = (p t && eachB (ps.drop (i + 1)) (l.drop (i + 1))) := by
        rw [List.drop_eq_getElem_cons hpp.1, List.drop_eq_getElem_cons hti.1, hti.2, hpp.2]; rfl
      rw [ed] at he
      refine ⟨fun hb => ?_, fun hb => Let.as _ (wi1 (by omega)) (hk (by omega) ?_)⟩
      · show _ = _
        have : p t = false := by simpa using hb
        rw [he, this]; rfl
      · have : p t = true := by simpa using hb
        rw [he, this]; rfl
    · have : i = fs.length := by omega
      subst this
      show _ = _
      rw [he, List.drop_of_length_le (by omega), List.drop_of_length_le (by omega)]; rfl
  · refine Br.t (by simp; omega) ?_
    show _ = _
    have : ∀ (ps : List (GTree -> Bool)) (l : List GTree), l.length ≠ ps.length -> eachB ps l = false := by
      intro ps
      induction ps with
      | nil => intro l h; cases l with
        | nil => simp at h
        | cons => rfl
      | cons p ps ih => intro l h; cases l with
        | nil => rfl
        | cons t ts => simp only [eachB]; rw [ih ts (by simp at h; omega)]; simp
    rw [this ps l (by omega)]
def isKs (ks : List Int) (t : GTree) : Bool := ks.any (fun x => t.Kind == x)
def isD (t : GTree) : Bool := decide (20 <= t.Kind) && decide (t.Kind <= 24)
def isR (t : GTree) : Bool := decide (38 <= t.Kind) && decide (t.Kind <= 40)
def isI (t : GTree) : Bool := (decide (33 <= t.Kind) && decide (t.Kind <= 35)) || t.Kind == 37 || isR t
def isE (t : GTree) : Bool := decide (1 <= t.Kind) && decide (t.Kind <= 12) && t.Kind != 3
theorem kind_fn {ks : List Int} {t : GTree} (hk : ks.length <= 1000) : FVal prog (Fn_parse_kind_1 ks) [GTree.out t] (.v (.bool (isKs ks t))) :=
 call_parse_kind_1 (walk_parse_kind_1 (by unfold W_parse_kind_1; exact Call.mk (containsInt_ev (by unfold maxLen; omega)) rfl))
theorem kind_ev (ks : List Int) : Ev_parse_kind ks (Fn_parse_kind_1 ks) := walk_parse_kind (by unfold W_parse_kind; rfl)
theorem dimension_ev (t : GTree) : Ev_parse_dimension t (isD t) := by
 refine walk_parse_dimension ?_
 unfold W_parse_dimension isD
 exact Br.d (fun h => by show _ = _; rw [decide_eq_true (show (20 : Int) <= _ from h), Bool.true_and]) (fun h => by show _ = _; rw [decide_eq_false (show ¬ (20 : Int) <= _ from h), Bool.false_and])
theorem rule_ev (t : GTree) : Ev_parse_rule t (isR t) := by
 refine walk_parse_rule ?_
 unfold W_parse_rule isR
 exact Br.d (fun h => by show _ = _; rw [decide_eq_true (show (38 : Int) <= _ from h), Bool.true_and]) (fun h => by show _ = _; rw [decide_eq_false (show ¬ (38 : Int) <= _ from h), Bool.false_and])
theorem item_ev (t : GTree) : Ev_parse_item t (isI t) := by
 refine walk_parse_item ?_
 unfold W_parse_item isI
 refine Br.d (fun h1 => Br.d (fun h2 => ?_) (fun h2 => Br.e (fun h3 => ?_) (fun h3 => Call.mk (rule_ev t) ?_))) (fun h1 => Br.e (fun h3 => ?_) (fun h3 => Call.mk (rule_ev t) ?_))
 all_goals show _ = _
 ·rw [decide_eq_true (show (33 : Int) <= _ from h1), decide_eq_true h2]; rfl
 ·rw [h3]; simp
 ·rw [decide_eq_false h2, beq_false_of_ne h3]; simp
 ·rw [h3]; simp
 ·rw [decide_eq_false (show ¬ (33 : Int) <= _ from h1), beq_false_of_ne h3]; simp
theorem expression_ev (t : GTree) : Ev_parse_expression t (isE t) := by
 refine walk_parse_expression ?_
 unfold W_parse_expression isE
 refine Br.d (fun h1 => Br.d (fun h2 => ?_) (fun h2 => ?_)) (fun h1 => ?_)
 all_goals show _ = _
 ·rw [decide_eq_true (show (1 : Int) <= _ from h1), decide_eq_true h2]; rfl
 ·rw [decide_eq_false h2]; simp
 ·rw [decide_eq_false (show ¬ (1 : Int) <= _ from h1)]; simp
theorem upto_ev (n lo hi : Int) : Ev_parse_upto n lo hi (decide (lo <= n) && decide (n <= hi)) := by
 refine walk_parse_upto ?_
 unfold W_parse_upto
 exact Br.d (fun h => by show _ = _; rw [decide_eq_true (show lo <= _ from h), Bool.true_and]) (fun h => by show _ = _; rw [decide_eq_false (show ¬ lo <= _ from h), Bool.false_and])
def namesB (k : Int) : Bool := [(31 : Int), 32, 33, 34, 35, 36, 40, 3, 21].any (fun x => k == x)
theorem names_ev (k : Int) : Ev_parse_names k (namesB k) := walk_parse_names (by unfold W_parse_names; exact Call.mk (containsInt_ev (by decide)) rfl)
abbrev noText : ByteArray := ByteArray.mk #[]
theorem noText_iff {s : ByteArray} : (s.toList == noText.toList) = decide (s = noText) := by
 rw [Bool.eq_iff_iff, beq_str]; simp
def sameB (a b : GTree) : Bool := a.Kind == b.Kind && decide (a.Name = b.Name) && decide (a.Alias = b.Alias) && a.N == b.N && a.M == b.M && a.Flag == b.Flag && GRat.beq a.Num b.Num
theorem same_ev (a b : GTree) : Ev_parse_same a b (sameB a b) := by
 refine walk_parse_same ?_
 unfold W_parse_same sameB
 have es : ∀ x y : ByteArray, (x.toList == y.toList) = decide (x = y) := fun x y => by rw [Bool.eq_iff_iff, beq_str]; simp
 rw [es, es]
 cases h1 : a.Kind == b.Kind <;> cases h2 : decide (a.Name = b.Name) <;> cases h3 : decide (a.Alias = b.Alias) <;> cases h4 : a.N == b.N <;> cases h5 : a.M == b.M <;> cases h6 : a.Flag == b.Flag <;> simp [Br]
def numB (t : GTree) : Bool := t.Kind == 1 && t.Num.D == 1 && decide (0 <= t.Num.N) && decide (t.Num.N <= 1000000)
def refB (t : GTree) : Bool := t.Kind == 2 && (match t.Kids with | [k] => k.Kids.isEmpty | _ => false)
def indexB (t : GTree) : Bool :=
 if t.Kind = 8 \/ t.Kind = 9 then (match t.Kids with | [a, b] => refB a && numB b | _ => false) else numB t || refB t
theorem num_fn (t : GTree) : FVal prog Fn_parse_index_1 [GTree.out t] (.v (.bool (numB t))) := call_parse_index_1 (walk_parse_index_1 (by
 unfold W_parse_index_1 numB
 refine Br.e (fun h1 => Br.e (fun h2 => Br.d (fun h3 => ?_) (fun h3 => ?_)) (fun h2 => ?_)) (fun h1 => ?_)
 all_goals show _ = _
 ·rw [h1, h2, decide_eq_true (show (0 : Int) <= _ from h3)]; rfl
 ·rw [decide_eq_false (show ¬ (0 : Int) <= _ from h3)]; simp
 ·rw [beq_false_of_ne h2]; simp
 ·rw [beq_false_of_ne h1]; simp))
theorem ref_fn (t : GTree) : FVal prog Fn_parse_index_2 [GTree.out t] (.v (.bool (refB t))) := call_parse_index_2 (walk_parse_index_2 (by
 unfold W_parse_index_2 refB
 refine Br.e (fun h1 => ?_) (fun h1 => ?_)
 ·rw [h1]
  cases hk : t.Kids with
  | nil => exact Br.f rfl rfl
  | cons k ks =>
   cases ks with
   | nil =>
    refine Br.t rfl (At.nat (i := 0) (by simp) fun x hx => ?_)
    simp at hx; subst hx
    show (((k.Kids.length : Nat) : Int) == 0) = k.Kids.isEmpty
    cases k.Kids with
    | nil => rfl
    | cons a b => simp; omega
   | cons a b => exact Br.f (by simp; omega) (by simp)
 ·show _ = _; rw [beq_false_of_ne h1]; simp))
theorem pindex_ev (t : GTree) : Ev_parse_index t (indexB t) := by
 refine walk_parse_index ?_
 unfold W_parse_index indexB
 refine ⟨fun b => b = decide (t.Kind = 8 \/ t.Kind = 9), Br.e (fun e => by simp [e]) (fun e => by show _ = _; rw [Bool.eq_iff_iff]; simp [e]), ?_⟩
 rintro _ rfl
 refine Br.d (fun h => ?_) (fun h => ?_)
 ·rw [if_pos h]
  match hk : t.Kids with
  | [] => exact Br.f rfl rfl
  | [_] => exact Br.f rfl rfl
  | [a, b] =>
   refine Br.t rfl (At.nat (i := 0) (by simp) fun x hx => ?_)
   simp at hx; subst hx
   refine Call.mk (ref_fn a) ⟨fun hb => At.nat (i := 1) (by simp) fun y hy => ?_, fun hb => ?_⟩
   ·simp at hy; subst hy
    exact Call.mk (num_fn b) (by show _ = (refB a && numB b); rw [hb, Bool.true_and])
   ·show _ = (refB a && numB b); rw [hb]; rfl
  | _ :: _ :: _ :: _ => exact Br.f (by simp; omega) rfl
 ·rw [if_neg h]
  refine Call.mk (num_fn t) ⟨fun hb => ?_, fun hb => Call.mk (ref_fn t) ?_⟩
  ·show _ = _; rw [hb]; rfl
  ·show _ = _; rw [hb, Bool.false_or]
end Go.Sim.YtomeghkmdcfolaaGreatDoor
