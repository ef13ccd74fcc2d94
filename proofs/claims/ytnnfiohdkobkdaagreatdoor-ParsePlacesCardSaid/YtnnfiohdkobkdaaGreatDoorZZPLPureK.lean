/- What is proved: laws of loops that count up, in the words of the printed statements. -/
import Derived.Test.YtnnfiohdkobkdaaGreatDoorZZPLSimE
import Derived.Test.YtnnfiohdkobkdaaGreatDoorZZPLSimL
import Derived.Laws.Strings
import Derived.Test.YtnnfiohdkobkdaaGreatDoorZZPLWPr

namespace Go.Sim
open Go.RowKit
theorem wi1 {i : Nat} (h : i + 1 ≤ 9223372036854775807) : IntKind.i64.wrap ((i : Int) + 1) = ((i + 1 : Nat) : Int) := by
  rw [wi (by omega) (by omega)]; omega
/-- A loop that counts from 0 to 'n'. -/
theorem Loop1.up {b : Int → (Int → Prop) → Prop} (n : Nat) (P : Nat → Prop) (h0 : P 0) (st : ∀ (i : Nat) (k : Int → Prop), i ≤ n → P i → (i + 1 ≤ n → P (i + 1) → k ((i + 1 : Nat) : Int)) → b (i : Int) k) : Loop1 (0 : Int) b := by
  refine ⟨fun z => ∃ j : Nat, z = (j : Int) ∧ j ≤ n ∧ P j, fun z => n - z.toNat, ⟨0, rfl, Nat.zero_le _, h0⟩, ?_⟩
  rintro _ ⟨j, rfl, hj, hP⟩
  refine st j _ hj hP fun h1 h2 => ⟨⟨j + 1, rfl, h1, h2⟩, ?_⟩
  simp only [Int.toNat_natCast]; omega
theorem Loop2.up {α : Type} {s0 : α} {b : α → Int → (α → Int → Prop) → Prop} (n : Nat) (P : Nat → α → Prop) (h0 : P 0 s0) (st : ∀ (i : Nat) (s : α) (k : α → Int → Prop), i ≤ n → P i s → (∀ s', i + 1 ≤ n → P (i + 1) s' → k s' ((i + 1 : Nat) : Int)) → b s (i : Int) k) : Loop2 s0 (0 : Int) b := by
  refine ⟨fun s z => ∃ j : Nat, z = (j : Int) ∧ j ≤ n ∧ P j s, fun _ z => n - z.toNat, ⟨0, rfl, Nat.zero_le _, h0⟩, ?_⟩
  rintro s _ ⟨j, rfl, hj, hP⟩
  refine st j s _ hj hP fun s' h1 h2 => ⟨⟨j + 1, rfl, h1, h2⟩, ?_⟩
  simp only [Int.toNat_natCast]; omega
/-- What stands at a counted place. -/
theorem At.nat {α : Type} {xs : List α} {i : Nat} {k : α → Prop} (h : i < xs.length) (hk : ∀ x, xs[i]? = some x → k x) : At xs (i : Int) k :=
  ⟨by omega, xs[i], by rw [Int.toNat_natCast]; exact List.getElem?_eq_getElem h, hk _ (List.getElem?_eq_getElem h)⟩
theorem beq_str {a b : ByteArray} : (a.toList == b.toList) = true ↔ a = b := by
  rw [beq_iff_eq, ByteArray.toList_eq, ByteArray.toList_eq]
  exact ⟨fun h => ByteArray.ext (Array.ext' h), fun h => by rw [h]⟩
end Go.Sim

/- What is proved: laws of searches through lists. -/
namespace Go.Sim
/-- Where a test holds first. -/
def firstAt {α : Type} (p : α → Bool) (xs : List α) : Int := match xs.findIdx? p with | some i => (i : Int) | none => -1
theorem firstAt_is {α : Type} {p : α → Bool} {xs : List α} {i : Nat} {x : α} (hx : xs[i]? = some x) (hp : p x = true) (hP : ∀ j y, j < i → xs[j]? = some y → p y = false) : firstAt p xs = (i : Int) := by
  have : xs.findIdx? p = some i := by
    rw [List.findIdx?_eq_some_iff_getElem]
    obtain ⟨h1, h2⟩ := List.getElem?_eq_some_iff.1 hx
    refine ⟨h1, by rw [h2]; exact hp, fun j hj => ?_⟩
    have := hP j (xs[j]'(by omega)) hj (List.getElem?_eq_getElem _)
    simp [this]
  unfold firstAt; rw [this]
theorem firstAt_no {α : Type} {p : α → Bool} {xs : List α} (hP : ∀ j y, j < xs.length → xs[j]? = some y → p y = false) : firstAt p xs = -1 := by
  have : xs.findIdx? p = none := by
    rw [List.findIdx?_eq_none_iff]
    intro x hx
    obtain ⟨j, hj⟩ := List.mem_iff_getElem?.1 hx
    exact hP j x (List.getElem?_eq_some_iff.1 hj).1 hj
  unfold firstAt; rw [this]
theorem upto_next {α : Type} {p : α → Bool} {xs : List α} {i : Nat} {x : α} (hx : xs[i]? = some x) (hp : p x = false) (hP : ∀ j y, j < i → xs[j]? = some y → p y = false) : ∀ j y, j < i + 1 → xs[j]? = some y → p y = false := by
  intro j y hj hy
  by_cases e : j = i
  · subst e; rw [hx] at hy; cases hy; exact hp
  · exact hP j y (by omega) hy
theorem firstAt_any {α : Type} (p : α → Bool) (xs : List α) : decide (firstAt p xs ≥ 0) = xs.any p := by
  unfold firstAt
  cases he : xs.findIdx? p with
  | none =>
    rw [List.findIdx?_eq_none_iff] at he
    rw [Bool.eq_iff_iff, decide_eq_true_iff, List.any_eq_true]
    constructor
    · intro h; simp only [] at h; omega
    · rintro ⟨x, hx, h⟩
      rw [he x hx] at h; cases h
  | some i =>
    rw [List.findIdx?_eq_some_iff_getElem] at he
    obtain ⟨h0, h2, _⟩ := he
    rw [Bool.eq_iff_iff, decide_eq_true_iff, List.any_eq_true]
    exact ⟨fun _ => ⟨xs[i], List.getElem_mem h0, h2⟩, fun _ => by simp only []; omega⟩
/-- The loop of a search. -/
theorem Loop1.first {α : Type} {b : Int → (Int → Prop) → Prop} (xs : List α) (p : α → Bool)
    (st : ∀ (i : Nat) (k : Int → Prop), i ≤ xs.length → (∀ j y, j < i → xs[j]? = some y → p y = false) → (∀ x, xs[i]? = some x → p x = false → k ((i + 1 : Nat) : Int)) → b (i : Int) k) : Loop1 (0 : Int) b := by
  refine Loop1.up xs.length (fun i => ∀ j y, j < i → xs[j]? = some y → p y = false) (by intro j x h; omega) ?_
  intro i k hi hP hk
  refine st i k hi hP fun x hx hp => hk (by have := (List.getElem?_eq_some_iff.1 hx).1; omega) (upto_next hx hp hP)
end Go.Sim

/- What is proved: how deep a tree is, and how many nodes it has, as the program and the reference tell; tests of lists of trees. -/
namespace Go.Sim.YtnnfiohdkobkdaaGreatDoor
open Go.RowKit Go.Proofs Go.Proofs.Tryz
theorem indexTree_ev {s : List GTree} {f : DV} {p : GTree → Bool} (hs : s.length ≤ maxLen) (hf : ∀ t ∈ s, FVal prog f [GTree.out t] (.v (.bool (p t)))) : Ev_slices_IndexFunc_api_Tree s f (firstAt p s) := by
  have hm : maxLen = 9223372036854775807 := rfl
  refine walk_slices_IndexFunc_api_Tree ?_
  unfold W_slices_IndexFunc_api_Tree
  refine Loop1.first s p ?_
  intro i k hi hP hk
  refine Br.d (fun h => At.nat (by omega) fun x hx => Call.mk (hf x (List.mem_of_getElem? hx)) ⟨fun hp => ?_, fun hp => ?_⟩) (fun h => ?_)
  · exact (firstAt_is hx hp hP).symm
  · exact Let.as _ (wi1 (by omega)) (hk x hx hp)
  · exact (firstAt_no fun j y hj => hP j y (by omega)).symm
theorem containsTree_ev {s : List GTree} {f : DV} {p : GTree → Bool} (hs : s.length ≤ maxLen) (hf : ∀ t ∈ s, FVal prog f [GTree.out t] (.v (.bool (p t)))) : Ev_slices_ContainsFunc_api_Tree s f (s.any p) := by
  refine walk_slices_ContainsFunc_api_Tree ?_
  unfold W_slices_ContainsFunc_api_Tree
  exact Call.mk (indexTree_ev hs hf) (firstAt_any p s)
/-! ### How deep -/
mutual
def dep : GTree → Nat
  | ⟨_, _, _, _, _, _, _, ks⟩ => depL ks + 1
def depL : List GTree → Nat
  | [] => 0
  | t :: ts => max (dep t) (depL ts)
end
theorem dep_eq (t : GTree) : dep t = depL t.Kids + 1 := by cases t; simp only [dep]
theorem dep_pos (t : GTree) : 1 ≤ dep t := by rw [dep_eq]; omega
mutual
def siz : GTree → Nat
  | ⟨_, _, _, _, _, _, _, ks⟩ => sizL ks + 1
def sizL : List GTree → Nat
  | [] => 0
  | t :: ts => siz t + sizL ts
end
theorem siz_eq (t : GTree) : siz t = sizL t.Kids + 1 := by cases t; simp only [siz]
theorem sizL_append : ∀ (xs ys : List GTree), sizL (xs ++ ys) = sizL xs + sizL ys
  | [], ys => by simp [sizL]
  | x :: xs, ys => by simp only [List.cons_append, sizL, sizL_append xs ys]; omega
theorem sizL_take {xs : List GTree} {i : Nat} {x : GTree} (h : xs[i]? = some x) : sizL (xs.take (i + 1)) = sizL (xs.take i) + siz x := by
  rw [List.take_add_one, h, sizL_append]; simp [sizL]
theorem sizL_le (xs : List GTree) (i : Nat) : sizL (xs.take i) ≤ sizL xs := by
  have := sizL_append (xs.take i) (xs.drop i)
  rw [List.take_append_drop] at this; omega
theorem any_dep (n : Nat) : ∀ xs : List GTree, xs.any (fun k => decide (n < dep k)) = decide (n < depL xs)
  | [] => by simp [depL]
  | x :: xs => by
    rw [List.any_cons, any_dep n xs, Bool.eq_iff_iff, show depL (x :: xs) = max (dep x) (depL xs) from rfl]
    simp only [Bool.or_eq_true, decide_eq_true_eq]
    omega
theorem kids_le {t : GTree} (h : t.ok) : t.Kids.length ≤ maxLen := ((GTree.ok_iff t).1 h).2.2.2.2.2.2.1
theorem kids_ok {t : GTree} (h : t.ok) : ∀ k ∈ t.Kids, k.ok := ((GTree.ok_iff t).1 h).2.2.2.2.2.2.2
theorem deep_ev : ∀ (n : Nat) (t : GTree), t.ok → n ≤ 100000 → Ev_parse_deep t (n : Int) (decide (n < dep t))
  | 0, t, ht, _ => by
    refine walk_parse_deep ?_
    unfold W_parse_deep
    refine Br.eT rfl ?_
    have := dep_pos t
    exact (decide_eq_true (by omega)).symm
  | n + 1, t, ht, hn => by
    refine walk_parse_deep ?_
    unfold W_parse_deep
    refine Br.eF (by omega) (Call.mk (containsTree_ev (p := fun k => decide (n < dep k)) (kids_le ht) fun k hk => call_parse_deep_1 (walk_parse_deep_1 ?_)) ?_)
    · unfold W_parse_deep_1
      exact Let.as (n : Int) (by rw [wi (by omega) (by omega)]; omega) (Call.mk (deep_ev n k (kids_ok ht k hk) (by omega)) rfl)
    · show _ = _
      rw [any_dep, dep_eq, Bool.eq_iff_iff]
      simp only [decide_eq_true_eq]; omega
theorem nodes_ev (m : Nat) (t : GTree) (ht : t.ok) (hm : m ≤ 100000) : Ev_parse_nodes t (m : Int) ((min (siz t) (m + 1) : Nat) : Int) := by
  have hml : maxLen = 9223372036854775807 := rfl
  have hk := kids_le ht
  refine walk_parse_nodes ?_
  unfold W_parse_nodes
  refine Loop2.up t.Kids.length (fun i n => n = ((min (1 + sizL (t.Kids.take i)) (m + 1) : Nat) : Int)) (by simp [sizL]) ?_
  rintro i _ k hi rfl hk2
  refine Br.d (fun h => At.nat (by omega) fun x hx => Br.d (fun hb => ?_) (fun hb => ?_)) (fun h => ?_)
  · show _ = _
    have := sizL_le t.Kids i
    have := siz_eq t
    omega
  · obtain ⟨a, ha⟩ : ∃ a, a = 1 + sizL (t.Kids.take i) := ⟨_, rfl⟩
    rw [← ha] at hb ⊢
    have ha1 : a ≤ m := by omega
    have e : min a (m + 1) = a := by omega
    rw [e]
    refine Let.as ((m - a : Nat) : Int) (by rw [wi (by omega) (by omega)]; omega) (Call.mk (nodes_ev (m - a) x (kids_ok ht x (List.mem_of_getElem? hx)) (by omega)) (Let.as ((a + min (siz x) (m - a + 1) : Nat) : Int) (by rw [wi (by omega) (by omega)]; omega) (Let.as _ (wi1 (by omega)) (hk2 _ (by omega) ?_))))
    rw [sizL_take hx]; omega
  · show _ = _
    have : i = t.Kids.length := by omega
    subst this
    rw [List.take_length, siz_eq]; omega
termination_by m
decreasing_by omega
end Go.Sim.YtnnfiohdkobkdaaGreatDoor

/- What is proved: which nodes may be, by themselves, as the program tells (shape_ev). -/
namespace Go.Sim.YtnnfiohdkobkdaaGreatDoor
open Go.RowKit Go.Proofs Go.Proofs.Tryz
/-! ### Classes of kinds -/
/-! ### Indices -/
end Go.Sim.YtnnfiohdkobkdaaGreatDoor
