/- What is proved: laws of searches through lists. -/
import Derived.Test.YtnnfiohdkobkdaaGreatDoorZPRPureK

namespace Go.Sim
/-- Where a test holds first. -/
def firstAt {α : Type} (p : α → Bool) (xs : List α) : Int := match xs.findIdx? p with | some i => (i : Int) | none => -1
theorem firstAt_is {α : Type} {p : α → Bool} {xs : List α} {i : Nat} {x : α} (hx : xs[i]? = some x) (hp : p x = true) (hP : ∀ j y, j < i → xs[j]? = some y → p y = false) : firstAt p xs = (i : Int) := by
  have : xs.findIdx? p = some i := by
    rw [List.findIdx?_eq_some_iff_getElem]
    obtain ⟨h1, h2⟩ := List.getElem?_eq_some_iff.1 hx
    refine ⟨h1, by rw [h2]; exact hp, fun j hj => ?_⟩
    have := hP j (xs[j]'(by omega)) hj (List.getElem?_eq_getElem _)
    simp [this]
  unfold firstAt; rw [this]
theorem firstAt_no {α : Type} {p : α → Bool} {xs : List α} (hP : ∀ j y, j < xs.length → xs[j]? = some y → p y = false) : firstAt p xs = -1 := by
  have : xs.findIdx? p = none := by
    rw [List.findIdx?_eq_none_iff]
    intro x hx
    obtain ⟨j, hj⟩ := List.mem_iff_getElem?.1 hx
    exact hP j x (List.getElem?_eq_some_iff.1 hj).1 hj
  unfold firstAt; rw [this]
theorem upto_next {α : Type} {p : α → Bool} {xs : List α} {i : Nat} {x : α} (hx : xs[i]? = some x) (hp : p x = false) (hP : ∀ j y, j < i → xs[j]? = some y → p y = false) : ∀ j y, j < i + 1 → xs[j]? = some y → p y = false := by
  intro j y hj hy
  by_cases e : j = i
  · subst e; rw [hx] at hy; cases hy; exact hp
  · exact hP j y (by omega) hy
theorem firstAt_any {α : Type} (p : α → Bool) (xs : List α) : decide (firstAt p xs ≥ 0) = xs.any p := by
  unfold firstAt
  cases he : xs.findIdx? p with
  | none =>
    rw [List.findIdx?_eq_none_iff] at he
    rw [Bool.eq_iff_iff, decide_eq_true_iff, List.any_eq_true]
    constructor
    · intro h; simp only [] at h; omega
    · rintro ⟨x, hx, h⟩
      rw [he x hx] at h; cases h
  | some i =>
    rw [List.findIdx?_eq_some_iff_getElem] at he
    obtain ⟨h0, h2, _⟩ := he
    rw [Bool.eq_iff_iff, decide_eq_true_iff, List.any_eq_true]
    exact ⟨fun _ => ⟨xs[i], List.getElem_mem h0, h2⟩, fun _ => by simp only []; omega⟩
/-- The loop of a search. -/
theorem Loop1.first {α : Type} {b : Int → (Int → Prop) → Prop} (xs : List α) (p : α → Bool)
    (st : ∀ (i : Nat) (k : Int → Prop), i ≤ xs.length → (∀ j y, j < i → xs[j]? = some y → p y = false) → (∀ x, xs[i]? = some x → p x = false → k ((i + 1 : Nat) : Int)) → b (i : Int) k) : Loop1 (0 : Int) b := by
  refine Loop1.up xs.length (fun i => ∀ j y, j < i → xs[j]? = some y → p y = false) (by intro j x h; omega) ?_
  intro i k hi hP hk
  refine st i k hi hP fun x hx hp => hk (by have := (List.getElem?_eq_some_iff.1 hx).1; omega) (upto_next hx hp hP)
end Go.Sim
