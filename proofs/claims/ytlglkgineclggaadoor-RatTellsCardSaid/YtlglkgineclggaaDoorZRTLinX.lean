/- What is proved: what lin's functions and the reference's make of vectors and matrices: the same. -/
import Derived.Test.YtlglkgineclggaaDoorZRTIvalX
import Derived.Test.YtlglkgineclggaaDoorZRTWF7
import Derived.Test.YtlglkgineclggaaDoorZRTWF8
namespace Go.Sim.YtlglkgineclggaaDoor
open Go.RowKit Go.Proofs Go.Proofs.Tryd
/-! ### Lists -/
def Upto {α : Type} (l : List α) (p : α → Prop) (i : Nat) : Prop := ∀ j, j < i → ∀ x, l[j]? = some x → p x
theorem Upto.zero {α : Type} {l : List α} {p : α → Prop} : Upto l p 0 := fun j hj => by omega
theorem Upto.succ {α : Type} {l : List α} {p : α → Prop} {i : Nat} {x : α} (h : Upto l p i) (hx : l[i]? = some x) (px : p x) : Upto l p (i + 1) := fun j hj y hy => by
  by_cases hji : j = i
  · subst hji; rw [hx] at hy; cases hy; exact px
  · exact h j (by omega) y hy
theorem Upto.all {α : Type} {l : List α} {p : α → Prop} {i : Nat} (h : Upto l p i) (hi : l.length ≤ i) : ∀ x ∈ l, p x := fun x hx => by
  obtain ⟨j, hj, e⟩ := List.getElem_of_mem hx
  exact h j (by omega) x (by rw [List.getElem?_eq_getElem hj, e])
theorem refsame_word {a : Nat} (ha : a < 18446744073709551616) : Ev_ref01_Same a a true := by
  refine walk_ref01_Same ?_
  unfold W_ref01_Same
  refine ⟨fun x => x = !decide (isN a), Call.mk (isnum_ev ha) ?_, fun x hx => ?_⟩
  · by_cases h : isN a
    · exact Br.f (by simp [h]) (Call.mk (isnum_ev ha) rfl)
    · exact Br.t (by simp [h]) (by simp [h])
  subst hx
  by_cases h : isN a
  · exact Br.f (by simp [h]) (Call.mk (float64bits_ev a) (Call.mk (float64bits_ev a) (by simp)))
  · exact Br.t (by simp [h]) (Call.mk (isnum_ev ha) (Br.t (by simp [h]) (Call.mk (isnum_ev ha) (by simp [h]))))
theorem refsame_ival {x : GIval} (h : okI x) : Ev_ref02_Same x x true := by
  refine walk_ref02_Same ?_
  unfold W_ref02_Same
  exact Call.mk (refsame_word h.1) (Br.t rfl (Call.mk (refsame_word h.2) rfl))
/-! ### What may be -/
/-! ### Sums of products -/
theorem App.le {α : Type} {b : Nat} {xs ys : List α} {k : List α → Prop} (hb : b ≤ 100) (h : xs.length + ys.length ≤ 1000) (hk : k (xs ++ ys)) : App b xs ys k :=
  ⟨by unfold maxLen; omega, by
    have := Nat.mul_le_mul h hb
    omega, Let.it hk⟩
/-! ### A matrix times a vector -/
/-! ### A matrix times a matrix -/
theorem Mk.le {α : Type} {b n : Nat} {z : α} {k : List α → Prop} (hb : b ≤ 100) (h : n ≤ 1000) (hk : k (List.replicate n z)) : Mk b (n : Int) z k :=
  ⟨by omega, by
    have := Nat.mul_le_mul hb h
    have e : ((b : Int) * (n : Int)) = ((b * n : Nat) : Int) := by rw [Int.natCast_mul]
    rw [e]; omega, by omega, Let.it (by rw [Int.toNat_natCast]; exact hk)⟩
end Go.Sim.YtlglkgineclggaaDoor
