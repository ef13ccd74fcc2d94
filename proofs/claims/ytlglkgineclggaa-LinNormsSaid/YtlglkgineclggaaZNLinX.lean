/- What is proved: what lin's functions and the reference's make of vectors and matrices: the same. -/
import Derived.Test.YtlglkgineclggaaZNIvalX
import Derived.Test.YtlglkgineclggaaZNWF7
import Derived.Test.YtlglkgineclggaaZNWF8
namespace Go.Sim.Ytlglkgineclggaa
open Go.RowKit Go.Proofs Go.Proofs.Try
/-! ### Lists -/
def Upto {α : Type} (l : List α) (p : α → Prop) (i : Nat) : Prop := ∀ j, j < i → ∀ x, l[j]? = some x → p x
theorem Upto.zero {α : Type} {l : List α} {p : α → Prop} : Upto l p 0 := fun j hj => by omega
theorem Upto.succ {α : Type} {l : List α} {p : α → Prop} {i : Nat} {x : α} (h : Upto l p i) (hx : l[i]? = some x) (px : p x) : Upto l p (i + 1) := fun j hj y hy => by
  by_cases hji : j = i
  · subst hji; rw [hx] at hy; cases hy; exact px
  · exact h j (by omega) y hy
theorem Upto.all {α : Type} {l : List α} {p : α → Prop} {i : Nat} (h : Upto l p i) (hi : l.length ≤ i) : ∀ x ∈ l, p x := fun x hx => by
  obtain ⟨j, hj, e⟩ := List.getElem_of_mem hx
  exact h j (by omega) x (by rw [List.getElem?_eq_getElem hj, e])
theorem take_snoc {α : Type} {l : List α} {i : Nat} {x : α} (h : l[i]? = some x) : l.take (i + 1) = l.take i ++ [x] := by rw [List.take_add_one, h]; rfl
theorem all_false {α : Type} {l : List α} {p : α → Bool} {x : α} (hx : x ∈ l) (h : p x = false) : l.all p = false := by
  rw [List.all_eq_false]; exact ⟨x, hx, by rw [h]; decide⟩
theorem refsame_word {a : Nat} (ha : a < 18446744073709551616) : Ev_ref01_Same a a true := by
  refine walk_ref01_Same ?_
  unfold W_ref01_Same
  refine ⟨fun x => x = !decide (isN a), Call.mk (isnum_ev ha) ?_, fun x hx => ?_⟩
  · by_cases h : isN a
    · exact Br.f (by simp [h]) (Call.mk (isnum_ev ha) rfl)
    · exact Br.t (by simp [h]) (by simp [h])
  subst hx
  by_cases h : isN a
  · exact Br.f (by simp [h]) (Call.mk (float64bits_ev a) (Call.mk (float64bits_ev a) (by simp)))
  · exact Br.t (by simp [h]) (Call.mk (isnum_ev ha) (Br.t (by simp [h]) (Call.mk (isnum_ev ha) (by simp [h]))))
theorem refsame_ival {x : GIval} (h : okI x) : Ev_ref02_Same x x true := by
  refine walk_ref02_Same ?_
  unfold W_ref02_Same
  exact Call.mk (refsame_word h.1) (Br.t rfl (Call.mk (refsame_word h.2) rfl))
def okL (l : List GIval) : Prop := ∀ x ∈ l, okI x
def okM (m : List (List GIval)) : Prop := ∀ r ∈ m, okL r ∧ r.length ≤ 9223372036854775807
theorem same_vec {l : List GIval} (h : okL l) (hl : l.length ≤ 9223372036854775807) : Ev_ref04_Same l l true := by
  refine walk_ref04_Same ?_
  unfold W_ref04_Same
  refine Br.f (by simp) (Loop1.up l.length (fun _ => True) trivial ?_)
  intro i k hi _ hk
  exact Br.d (fun hlt => At.nat (by omega) fun x hx => At.nat (by omega) fun y hy => by
    rw [hx] at hy; cases hy
    exact Call.mk (refsame_ival (h x (List.mem_of_getElem? hx))) (Br.f rfl (Let.as _ (wi1 (by omega)) (hk (by omega) trivial)))) (fun _ => rfl)
theorem same_mat {m : List (List GIval)} (h : okM m) (hl : m.length ≤ 9223372036854775807) : Ev_ref04_SameAll m m true := by
  refine walk_ref04_SameAll ?_
  unfold W_ref04_SameAll
  refine Br.f (by simp) (Loop1.up m.length (fun _ => True) trivial ?_)
  intro i k hi _ hk
  exact Br.d (fun hlt => At.nat (by omega) fun x hx => At.nat (by omega) fun y hy => by
    rw [hx] at hy; cases hy
    have := h x (List.mem_of_getElem? hx)
    exact Call.mk (same_vec this.1 this.2) (Br.f rfl (Let.as _ (wi1 (by omega)) (hk (by omega) trivial)))) (fun _ => rfl)
/-! ### What may be -/
def vecB (v : List GIval) : Bool := v.all rightB && (decide (1 ≤ v.length) && decide (v.length ≤ 24))
def matB (m : List (List GIval)) : Bool := m.all (fun r => vecB r && decide (r.length = (m.headD []).length)) && (decide (1 ≤ m.length) && decide (m.length ≤ 24))
theorem headD_of {α : Type} {m : List (List α)} {x : List α} (h : m[0]? = some x) : m.headD [] = x := by
  cases m with
  | nil => simp at h
  | cons a l => simp at h; exact h
theorem vector_ev {v : List GIval} (hv : okL v) (hl : v.length ≤ 9223372036854775807) : Ev_lin_vector v (vecB v) := by
  refine walk_lin_vector ?_
  unfold W_lin_vector
  refine Loop1.up v.length (fun i => Upto v (fun x => rightB x = true) i) Upto.zero ?_
  intro i k hi hP hk
  refine Br.d (fun hlt => At.nat (by omega) fun x hx => Call.mk (right_evX (hv x (List.mem_of_getElem? hx))) ?_) (fun hge => ?_)
  · cases hr : rightB x with
    | true => exact Br.f rfl (Let.as _ (wi1 (by omega)) (hk (by omega) (hP.succ hx hr)))
    | false => exact Br.t rfl (by show false = vecB v; unfold vecB; rw [all_false (List.mem_of_getElem? hx) hr]; rfl)
  · have hall := List.all_eq_true.2 (hP.all (by omega))
    unfold vecB
    rw [hall]
    refine Br.d (fun h1 => ?_) (fun h1 => ?_)
    · rw [decide_eq_true (show 1 ≤ v.length by omega)]; show decide _ = decide _; rw [decide_eq_decide]; omega
    · rw [decide_eq_false (show ¬ 1 ≤ v.length by omega)]; rfl
theorem refvector_ev {v : List GIval} (hv : okL v) (hl : v.length ≤ 9223372036854775807) : Ev_ref04_Vector v (vecB v) := by
  refine walk_ref04_Vector ?_
  unfold W_ref04_Vector
  refine Loop1.up v.length (fun i => Upto v (fun x => rightB x = true) i) Upto.zero ?_
  intro i k hi hP hk
  refine Br.d (fun hlt => At.nat (by omega) fun x hx => Call.mk (refright_ev' (hv x (List.mem_of_getElem? hx))) ?_) (fun hge => ?_)
  · cases hr : rightB x with
    | true => exact Br.f rfl (Let.as _ (wi1 (by omega)) (hk (by omega) (hP.succ hx hr)))
    | false => exact Br.t rfl (by show false = vecB v; unfold vecB; rw [all_false (List.mem_of_getElem? hx) hr]; rfl)
  · have hall := List.all_eq_true.2 (hP.all (by omega))
    unfold vecB
    rw [hall]
    refine Br.d (fun h1 => ?_) (fun h1 => ?_)
    · rw [decide_eq_true (show 1 ≤ v.length by omega)]; show decide _ = decide _; rw [decide_eq_decide]; omega
    · rw [decide_eq_false (show ¬ 1 ≤ v.length by omega)]; rfl
theorem matrix_ev {m : List (List GIval)} (hm : okM m) (hl : m.length ≤ 9223372036854775807) : Ev_lin_matrix m (matB m) := by
  refine walk_lin_matrix ?_
  unfold W_lin_matrix
  refine Loop1.up m.length (fun i => Upto m (fun r => (vecB r && decide (r.length = (m.headD []).length)) = true) i) Upto.zero ?_
  intro i k hi hP hk
  refine Br.d (fun hlt => At.nat (by omega) fun x hx => ?_) (fun hge => ?_)
  · have hx1 := hm x (List.mem_of_getElem? hx)
    have no : (vecB x && decide (x.length = (m.headD []).length)) = false → false = matB m := fun h => by
      unfold matB; rw [all_false (List.mem_of_getElem? hx) h]; rfl
    refine Call.mk (vector_ev hx1.1 hx1.2) ?_
    cases hr : vecB x with
    | false => exact Br.t rfl (no (by rw [hr]; rfl))
    | true =>
      refine Br.f rfl (At.nat (i := 0) (by omega) fun y hy => ?_)
      have he := headD_of hy
      by_cases hlen : x.length = y.length
      · exact Br.f (by simp [hlen]) (Let.as _ (wi1 (by omega)) (hk (by omega) (hP.succ hx (by rw [hr, he, decide_eq_true hlen]; rfl))))
      · exact Br.t (by simp; omega) (no (by rw [hr, he, decide_eq_false hlen]; rfl))
  · have hall := List.all_eq_true.2 (hP.all (by omega))
    unfold matB
    rw [hall]
    refine Br.d (fun h1 => ?_) (fun h1 => ?_)
    · rw [decide_eq_true (show 1 ≤ m.length by omega)]; show decide _ = decide _; rw [decide_eq_decide]; omega
    · rw [decide_eq_false (show ¬ 1 ≤ m.length by omega)]; rfl
theorem refmatrix_ev {m : List (List GIval)} (hm : okM m) (hl : m.length ≤ 9223372036854775807) : Ev_ref04_Matrix m (matB m) := by
  refine walk_ref04_Matrix ?_
  unfold W_ref04_Matrix
  refine Loop1.up m.length (fun i => Upto m (fun r => (vecB r && decide (r.length = (m.headD []).length)) = true) i) Upto.zero ?_
  intro i k hi hP hk
  refine Br.d (fun hlt => At.nat (by omega) fun x hx => ?_) (fun hge => ?_)
  · have hx1 := hm x (List.mem_of_getElem? hx)
    have no : (vecB x && decide (x.length = (m.headD []).length)) = false → false = matB m := fun h => by
      unfold matB; rw [all_false (List.mem_of_getElem? hx) h]; rfl
    refine Call.mk (refvector_ev hx1.1 hx1.2) ?_
    cases hr : vecB x with
    | false => exact Br.t rfl (no (by rw [hr]; rfl))
    | true =>
      refine Br.f rfl (At.nat (i := 0) (by omega) fun y hy => ?_)
      have he := headD_of hy
      by_cases hlen : x.length = y.length
      · exact Br.f (by simp [hlen]) (Let.as _ (wi1 (by omega)) (hk (by omega) (hP.succ hx (by rw [hr, he, decide_eq_true hlen]; rfl))))
      · exact Br.t (by simp; omega) (no (by rw [hr, he, decide_eq_false hlen]; rfl))
  · have hall := List.all_eq_true.2 (hP.all (by omega))
    unfold matB
    rw [hall]
    refine Br.d (fun h1 => ?_) (fun h1 => ?_)
    · rw [decide_eq_true (show 1 ≤ m.length by omega)]; show decide _ = decide _; rw [decide_eq_decide]; omega
    · rw [decide_eq_false (show ¬ 1 ≤ m.length by omega)]; rfl
/-! ### Sums of products -/
theorem foldl_snoc {α β : Type} {f : β → α → β} {l : List α} {s : β} {i : Nat} {x : α} (h : l[i]? = some x) : (l.take (i + 1)).foldl f s = f ((l.take i).foldl f s) x := by
  rw [take_snoc h, List.foldl_append]; rfl
theorem App.le {α : Type} {b : Nat} {xs ys : List α} {k : List α → Prop} (hb : b ≤ 100) (h : xs.length + ys.length ≤ 1000) (hk : k (xs ++ ys)) : App b xs ys k :=
  ⟨by unfold maxLen; omega, by
    have := Nat.mul_le_mul h hb
    omega, Let.it hk⟩
/-! ### A matrix times a vector -/
/-! ### A matrix times a matrix -/
theorem set_mid {α : Type} {a b : List α} {x y : α} {i : Nat} (h : a.length = i) : (a ++ x :: b).set i y = a ++ y :: b := by
  subst h; rw [List.set_append_right _ _ (Nat.le_refl _)]; simp
theorem get_mid {α : Type} {a b : List α} {x : α} {i : Nat} (h : a.length = i) : (a ++ x :: b)[i]? = some x := by
  subst h; rw [List.getElem?_append_right (Nat.le_refl _)]; simp
theorem Mk.le {α : Type} {b n : Nat} {z : α} {k : List α → Prop} (hb : b ≤ 100) (h : n ≤ 1000) (hk : k (List.replicate n z)) : Mk b (n : Int) z k :=
  ⟨by omega, by
    have := Nat.mul_le_mul hb h
    have e : ((b : Int) * (n : Int)) = ((b * n : Nat) : Int) := by rw [Int.natCast_mul]
    rw [e]; omega, by omega, Let.it (by rw [Int.toNat_natCast]; exact hk)⟩
end Go.Sim.Ytlglkgineclggaa
