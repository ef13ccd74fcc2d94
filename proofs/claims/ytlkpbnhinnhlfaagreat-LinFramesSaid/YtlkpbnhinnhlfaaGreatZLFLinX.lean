/- What is proved: what lin's functions and the reference's make of vectors and matrices: the same. -/
import Derived.Test.YtlkpbnhinnhlfaaGreatZLFIvalX
import Derived.Test.YtlkpbnhinnhlfaaGreatZLFWF7
import Derived.Test.YtlkpbnhinnhlfaaGreatZLFWF8
import Derived.Test.YtlkpbnhinnhlfaaGreatZLFWE

namespace Go.Sim.YtlkpbnhinnhlfaaGreat
open Go.RowKit Go.Proofs Go.Proofs.Tryz
/-! ### Lists -/
def Upto {α : Type} (l : List α) (p : α → Prop) (i : Nat) : Prop := ∀ j, j < i → ∀ x, l[j]? = some x → p x
theorem Upto.zero {α : Type} {l : List α} {p : α → Prop} : Upto l p 0 := fun j hj => by omega
theorem Upto.succ {α : Type} {l : List α} {p : α → Prop} {i : Nat} {x : α} (h : Upto l p i) (hx : l[i]? = some x) (px : p x) : Upto l p (i + 1) := fun j hj y hy => by
  by_cases hji : j = i
  · subst hji; rw [hx] at hy; cases hy; exact px
  · exact h j (by omega) y hy
theorem Upto.all {α : Type} {l : List α} {p : α → Prop} {i : Nat} (h : Upto l p i) (hi : l.length ≤ i) : ∀ x ∈ l, p x := fun x hx => by
  obtain ⟨j, hj, e⟩ := List.getElem_of_mem hx
  exact h j (by omega) x (by rw [List.getElem?_eq_getElem hj, e])
theorem take_snoc {α : Type} {l : List α} {i : Nat} {x : α} (h : l[i]? = some x) : l.take (i + 1) = l.take i ++ [x] := by rw [List.take_add_one, h]; rfl
theorem all_false {α : Type} {l : List α} {p : α → Bool} {x : α} (hx : x ∈ l) (h : p x = false) : l.all p = false := by
  rw [List.all_eq_false]; exact ⟨x, hx, by rw [h]; decide⟩
def okL (l : List GIval) : Prop := ∀ x ∈ l, okI x
def okM (m : List (List GIval)) : Prop := ∀ r ∈ m, okL r ∧ r.length ≤ 9223372036854775807
/-! ### What may be -/
def vecB (v : List GIval) : Bool := v.all rightB && (decide (1 ≤ v.length) && decide (v.length ≤ 24))
def matB (m : List (List GIval)) : Bool := m.all (fun r => vecB r && decide (r.length = (m.headD []).length)) && (decide (1 ≤ m.length) && decide (m.length ≤ 24))
theorem vecB_true {v : List GIval} (h : vecB v = true) : (∀ x ∈ v, rightB x = true) ∧ 1 ≤ v.length ∧ v.length ≤ 24 := by
  unfold vecB at h
  rw [Bool.and_eq_true, Bool.and_eq_true, decide_eq_true_iff, decide_eq_true_iff, List.all_eq_true] at h
  exact h
theorem matB_true {m : List (List GIval)} (h : matB m = true) : (∀ r ∈ m, vecB r = true ∧ r.length = (m.headD []).length) ∧ 1 ≤ m.length ∧ m.length ≤ 24 := by
  unfold matB at h
  rw [Bool.and_eq_true, Bool.and_eq_true, decide_eq_true_iff, decide_eq_true_iff, List.all_eq_true] at h
  refine ⟨fun r hr => ?_, h.2⟩
  have := h.1 r hr
  rwa [Bool.and_eq_true, decide_eq_true_iff] at this
theorem headD_of {α : Type} {m : List (List α)} {x : List α} (h : m[0]? = some x) : m.headD [] = x := by
  cases m with
  | nil => simp at h
  | cons a l => simp at h; exact h
theorem vector_ev {v : List GIval} (hv : okL v) (hl : v.length ≤ 9223372036854775807) : Ev_lin_vector v (vecB v) := by
  refine walk_lin_vector ?_
  unfold W_lin_vector
  refine Loop1.up v.length (fun i => Upto v (fun x => rightB x = true) i) Upto.zero ?_
  intro i k hi hP hk
  refine Br.d (fun hlt => At.nat (by omega) fun x hx => Call.mk (right_evX (hv x (List.mem_of_getElem? hx))) ?_) (fun hge => ?_)
  · cases hr : rightB x with
    | true => exact Br.f rfl (Let.as _ (wi1 (by omega)) (hk (by omega) (hP.succ hx hr)))
    | false => exact Br.t rfl (by show false = vecB v; unfold vecB; rw [all_false (List.mem_of_getElem? hx) hr]; rfl)
  · have hall := List.all_eq_true.2 (hP.all (by omega))
    unfold vecB
    rw [hall]
    refine Br.d (fun h1 => ?_) (fun h1 => ?_)
    · rw [decide_eq_true (show 1 ≤ v.length by omega)]; show decide _ = decide _; rw [decide_eq_decide]; omega
    · rw [decide_eq_false (show ¬ 1 ≤ v.length by omega)]; rfl
theorem matrix_ev {m : List (List GIval)} (hm : okM m) (hl : m.length ≤ 9223372036854775807) : Ev_lin_matrix m (matB m) := by
  refine walk_lin_matrix ?_
  unfold W_lin_matrix
  refine Loop1.up m.length (fun i => Upto m (fun r => (vecB r && decide (r.length = (m.headD []).length)) = true) i) Upto.zero ?_
  intro i k hi hP hk
  refine Br.d (fun hlt => At.nat (by omega) fun x hx => ?_) (fun hge => ?_)
  · have hx1 := hm x (List.mem_of_getElem? hx)
    have no : (vecB x && decide (x.length = (m.headD []).length)) = false → false = matB m := fun h => by
      unfold matB; rw [all_false (List.mem_of_getElem? hx) h]; rfl
    refine Call.mk (vector_ev hx1.1 hx1.2) ?_
    cases hr : vecB x with
    | false => exact Br.t rfl (no (by rw [hr]; rfl))
    | true =>
      refine Br.f rfl (At.nat (i := 0) (by omega) fun y hy => ?_)
      have he := headD_of hy
      by_cases hlen : x.length = y.length
      · exact Br.f (by simp [hlen]) (Let.as _ (wi1 (by omega)) (hk (by omega) (hP.succ hx (by rw [hr, he, decide_eq_true hlen]; rfl))))
      · exact Br.t (by simp; omega) (no (by rw [hr, he, decide_eq_false hlen]; rfl))
  · have hall := List.all_eq_true.2 (hP.all (by omega))
    unfold matB
    rw [hall]
    refine Br.d (fun h1 => ?_) (fun h1 => ?_)
    · rw [decide_eq_true (show 1 ≤ m.length by omega)]; show decide _ = decide _; rw [decide_eq_decide]; omega
    · rw [decide_eq_false (show ¬ 1 ≤ m.length by omega)]; rfl
/-! ### Sums of products -/
def dotF (s : GIval) (p : GIval × GIval) : GIval := addI s (mulI p.1 p.2)
def dotI (a b : List GIval) : GIval := (a.zip b).foldl dotF (makeI 0 0)
theorem ok_dotF : ∀ (l : List (GIval × GIval)) (s : GIval), okI s → okI (l.foldl dotF s)
  | [], _, h => h
  | _ :: l, _, h => ok_dotF l _ (ok_add h ok_mul)
theorem ok_zero : okI (makeI 0 0) := ok_make (by decide) (by decide)
theorem zip_at {α : Type} {a b : List α} {i : Nat} {x y : α} (hx : a[i]? = some x) (hy : b[i]? = some y) : (a.zip b)[i]? = some (x, y) := by
  rw [List.getElem?_zip_eq_some]; exact ⟨hx, hy⟩
theorem foldl_snoc {α β : Type} {f : β → α → β} {l : List α} {s : β} {i : Nat} {x : α} (h : l[i]? = some x) : (l.take (i + 1)).foldl f s = f ((l.take i).foldl f s) x := by
  rw [take_snoc h, List.foldl_append]; rfl
theorem dot_ev {a b : List GIval} (ha : okL a) (hb : okL b) (la : a.length ≤ 9223372036854775807) (lb : b.length ≤ 9223372036854775807) :
    Ev_lin_Dot a b (if vecB a = true ∧ vecB b = true ∧ a.length = b.length then (dotI a b, 0) else (GIval.zero, 1)) := by
  refine walk_lin_Dot ?_
  unfold W_lin_Dot
  refine Call.mk (vector_ev ha la) ?_
  cases hva : vecB a with
  | false => exact Br.t rfl (by rw [if_neg (fun h => by cases h.1)])
  | true =>
    refine Br.f rfl (Call.mk (vector_ev hb lb) ?_)
    cases hvb : vecB b with
    | false => exact Br.t rfl (by rw [if_neg (fun h => by cases h.2.1)])
    | true =>
      by_cases hlen : a.length = b.length
      · rw [if_pos ⟨rfl, rfl, hlen⟩]
        refine Br.f rfl (Br.f (by simp [hlen]) (Call.mk (walk_ival_Point (by unfold W_ival_Point; exact Call.mk (make_evX (by decide) (by decide) (by decide) (by decide)) rfl)) ?_))
        refine Loop2.up a.length (fun i s => s = ((a.zip b).take i).foldl dotF (makeI 0 0)) rfl ?_
        rintro i s k hi rfl hk
        refine Br.d (fun hlt => At.nat (by omega) fun x hx => At.nat (by omega) fun y hy => ?_) (fun hge => ?_)
        · refine Call.mk (imul_evX (ha x (List.mem_of_getElem? hx)) (hb y (List.mem_of_getElem? hy))) (Call.mk (iadd_evX (ok_dotF _ _ ok_zero) ok_mul) (Let.as _ (wi1 (by omega)) (hk _ (by omega) ?_)))
          rw [foldl_snoc (zip_at hx hy)]; rfl
        · show (_, _) = (_, _)
          rw [List.take_of_length_le (by rw [List.length_zip]; omega)]; rfl
      · rw [if_neg (fun h => hlen h.2.2)]
        exact Br.f rfl (Br.t (by simp; omega) rfl)
theorem refdot_ev {a b : List GIval} (ha : okL a) (hb : okL b) (la : a.length ≤ 9223372036854775807) (hlen : a.length = b.length) : Ev_ref04_Dot a b (dotI a b) := by
  refine walk_ref04_Dot ?_
  unfold W_ref04_Dot
  refine Call.mk (refmake_ev (by decide) (by decide)) ?_
  refine Loop2.up a.length (fun i s => s = ((a.zip b).take i).foldl dotF (makeI 0 0)) rfl ?_
  rintro i s k hi rfl hk
  refine Br.d (fun hlt => At.nat (by omega) fun x hx => At.nat (by omega) fun y hy => ?_) (fun hge => ?_)
  · refine Call.mk (refmul_ev02 (ha x (List.mem_of_getElem? hx)) (hb y (List.mem_of_getElem? hy))) (Call.mk (refadd_ev02 (ok_dotF _ _ ok_zero) ok_mul) (Let.as _ (wi1 (by omega)) (hk _ (by omega) ?_)))
    rw [foldl_snoc (zip_at hx hy)]; rfl
  · show _ = _
    rw [List.take_of_length_le (by rw [List.length_zip]; omega)]; rfl
theorem App.le {α : Type} {b : Nat} {xs ys : List α} {k : List α → Prop} (hb : b ≤ 100) (h : xs.length + ys.length ≤ 1000) (hk : k (xs ++ ys)) : App b xs ys k :=
  ⟨by unfold maxLen; omega, by
    have := Nat.mul_le_mul h hb
    omega, Let.it hk⟩
/-! ### A matrix times a vector -/
/-! ### A matrix times a matrix -/
def colI (b : List (List GIval)) (j : Nat) : List GIval := b.map fun r => r.getD j EMP
def rowI (b : List (List GIval)) (n : Nat) (r : List GIval) : List GIval := (List.range n).map fun j => dotI r (colI b j)
def mmI (a b : List (List GIval)) : List (List GIval) := a.map (rowI b (b.headD []).length)
def mmB (a b : List (List GIval)) : Bool := matB a && (matB b && decide ((a.headD []).length = b.length))
theorem getD_at' {α : Type} {l : List α} {i : Nat} {x d : α} (h : l[i]? = some x) : l.getD i d = x := by rw [List.getD_eq_getElem?_getD, h]; rfl
theorem ok_col {b : List (List GIval)} (h : okM b) (j : Nat) : okL (colI b j) := fun x hx => by
  obtain ⟨r, hr, rfl⟩ := List.mem_map.1 hx
  by_cases hj : j < r.length
  · rw [getD_at' (List.getElem?_eq_getElem hj)]; exact (h r hr).1 _ (List.getElem_mem hj)
  · rw [List.getD_eq_getElem?_getD, List.getElem?_eq_none (by omega)]; exact ok_emp
theorem vec_col {b : List (List GIval)} (hb : matB b = true) {j : Nat} (hj : j < (b.headD []).length) : vecB (colI b j) = true := by
  have h := matB_true hb
  unfold vecB
  rw [Bool.and_eq_true, Bool.and_eq_true, decide_eq_true_iff, decide_eq_true_iff, List.all_eq_true]
  refine ⟨fun x hx => ?_, by unfold colI; rw [List.length_map]; exact h.2⟩
  obtain ⟨r, hr, rfl⟩ := List.mem_map.1 hx
  have hr1 := h.1 r hr
  have hlt : j < r.length := by omega
  rw [getD_at' (List.getElem?_eq_getElem hlt)]
  exact (vecB_true hr1.1).1 _ (List.getElem_mem hlt)
theorem set_mid {α : Type} {a b : List α} {x y : α} {i : Nat} (h : a.length = i) : (a ++ x :: b).set i y = a ++ y :: b := by
  subst h; rw [List.set_append_right _ _ (Nat.le_refl _)]; simp
theorem get_mid {α : Type} {a b : List α} {x : α} {i : Nat} (h : a.length = i) : (a ++ x :: b)[i]? = some x := by
  subst h; rw [List.getElem?_append_right (Nat.le_refl _)]; simp
theorem drop_at {α : Type} {l : List α} {i : Nat} {x : α} (h : l[i]? = some x) : l.drop i = x :: l.drop (i + 1) := by
  obtain ⟨hl, e⟩ := List.getElem?_eq_some_iff.1 h
  rw [List.drop_eq_getElem_cons hl, e]
theorem Mk.le {α : Type} {b n : Nat} {z : α} {k : List α → Prop} (hb : b ≤ 100) (h : n ≤ 1000) (hk : k (List.replicate n z)) : Mk b (n : Int) z k :=
  ⟨by omega, by
    have := Nat.mul_le_mul hb h
    have e : ((b : Int) * (n : Int)) = ((b * n : Nat) : Int) := by rw [Int.natCast_mul]
    rw [e]; omega, by omega, Let.it (by rw [Int.toNat_natCast]; exact hk)⟩
theorem rowI_succ (b : List (List GIval)) (n : Nat) (r : List GIval) : rowI b (n + 1) r = rowI b n r ++ [dotI r (colI b n)] := by
  unfold rowI; rw [List.range_succ, List.map_append]; rfl
theorem linmul_ev {a b : List (List GIval)} (ha : okM a) (hb : okM b) (la : a.length ≤ 9223372036854775807) (lb : b.length ≤ 9223372036854775807) :
    Ev_lin_Mul a b (if mmB a b = true then (mmI a b, 0) else ([], 1)) := by
  refine walk_lin_Mul ?_
  unfold W_lin_Mul
  unfold mmB
  refine Call.mk (matrix_ev ha la) ?_
  cases haB : matB a with
  | false => exact Br.t rfl (by rw [if_neg (by simp)])
  | true =>
    have hat := matB_true haB
    refine Br.f rfl (Call.mk (matrix_ev hb lb) ?_)
    cases hbB : matB b with
    | false => exact Br.t rfl (by rw [if_neg (by simp)])
    | true =>
      have hbt := matB_true hbB
      refine Br.f rfl (At.nat (i := 0) (by omega) fun x0 hx0 => ?_)
      rw [headD_of hx0]
      by_cases hlen : x0.length = b.length
      · rw [if_pos (by simp [hlen])]
        refine Br.f (by simp [hlen]) (Mk.le (by omega) (by omega) (At.nat (i := 0) (by omega) fun y0 hy0 => ?_))
        have hy1 := hbt.1 y0 (List.mem_of_getElem? hy0)
        have hyl := vecB_true hy1.1
        unfold mmI
        rw [headD_of hy0] at hbt ⊢
        refine Loop2.up y0.length (fun j out => out = a.map (rowI b j)) (by unfold rowI; simp [List.map_const']) ?_
        rintro j out k hj rfl hk
        refine Br.d (fun hlt => ?_) (fun hge => ?_)
        · refine Loop2.up b.length (fun i c => c = (b.take i).map fun r => r.getD j EMP) rfl ?_
          rintro i c k2 hi rfl hk2
          refine Br.d (fun hlt2 => At.nat (by omega) fun s hs => ?_) (fun hge2 => ?_)
          · have hs1 := hbt.1 s (List.mem_of_getElem? hs)
            refine At.nat (by omega) fun z hz => App.le (by omega) (by simp; omega) (Let.as _ (wi1 (by omega)) (hk2 _ (by omega) ?_))
            rw [take_snoc hs, List.map_append, List.map_cons, List.map_nil, getD_at' hz]
          · have hcol : (b.take i).map (fun r => r.getD j EMP) = colI b j := by rw [List.take_of_length_le (by omega)]; rfl
            rw [hcol]
            have hvc := vec_col hbB (j := j) (by rw [headD_of hy0]; omega)
            have hcl : (colI b j).length = b.length := by unfold colI; rw [List.length_map]
            refine Loop2.up a.length (fun i out => out = (a.take i).map (rowI b (j + 1)) ++ (a.drop i).map (rowI b j)) (by simp) ?_
            rintro i2 out2 k3 hi2 rfl hk3
            refine Br.d (fun hlt3 => At.nat (by omega) fun r hr => ?_) (fun hge3 => ?_)
            · have hr1 := ha r (List.mem_of_getElem? hr)
              have hr2 := hat.1 r (List.mem_of_getElem? hr)
              rw [headD_of hx0] at hr2
              have hd := dot_ev hr1.1 (ok_col hb j) hr1.2 (by omega)
              rw [if_pos ⟨hr2.1, hvc, by omega⟩] at hd
              have hlt' : ((a.take i2).map (rowI b (j + 1))).length = i2 := by simp; omega
              rw [drop_at hr, List.map_cons]
              refine Call.mk hd (At.nat (by simp; omega) fun z hz => ?_)
              rw [get_mid hlt'] at hz
              cases hz
              refine App.le (by omega) (by unfold rowI; simp; omega) (Let.as _ (wi1 (by omega)) (hk3 _ (by omega) ?_))
              rw [Int.toNat_natCast, set_mid hlt', take_snoc hr, List.map_append, List.append_assoc, ← rowI_succ]; rfl
            · refine Let.as _ (wi1 (by omega)) (hk _ (by omega) ?_)
              rw [List.take_of_length_le (by omega), List.drop_eq_nil_of_le (by omega)]; simp
        · show (_, _) = (_, _)
          rw [show j = y0.length by omega]
      · rw [if_neg (by simp [hlen])]
        exact Br.t (by simp; omega) rfl
end Go.Sim.YtlkpbnhinnhlfaaGreat
-- seatfit

/- What is proved: a function of the statement about products, as a value, does what it does when called by name. -/
namespace Go.Sim.YtlkpbnhinnhlfaaGreat
open Go.RowKit Go.Proofs Go.Proofs.Tryz
end Go.Sim.YtlkpbnhinnhlfaaGreat
-- seatfit

/- What is proved: functions of the program compute what plain statements tell. -/
namespace Go.Sim.YtlkpbnhinnhlfaaGreat
open Go.RowKit Go.Proofs Go.Proofs.Tryz
set_option maxRecDepth 100000
end Go.Sim.YtlkpbnhinnhlfaaGreat
