/- What is proved: the statement about products of vectors and matrices holds of all arguments. -/
import Derived.Test.YtlglkgineclggaaZPLawLN
namespace Go.Sim.Ytlglkgineclggaa
open Go.RowKit Go.Proofs Go.Proofs.Try
theorem first_ev {m : List (List GIval)} : Ev_law04_first m (m.headD []) := by
  refine walk_law04_first ?_
  unfold W_law04_first
  cases m with
  | nil => exact Br.t rfl rfl
  | cons a l => exact Br.f (by simp; omega) (At.nat (i := 0) (by simp) fun x hx => by simp at hx; subst hx; rfl)
theorem ok_head {m : List (List GIval)} (hm : okM m) : okL (m.headD []) ∧ (m.headD []).length ≤ 9223372036854775807 := by
  cases m with
  | nil => exact ⟨fun x hx => (by cases hx), by simp⟩
  | cons a l => exact hm a (List.mem_cons_self ..)
theorem ok_app {m : List (List GIval)} {v : List GIval} : okL (appI m v) := fun x hx => by
  obtain ⟨r, _, rfl⟩ := List.mem_map.1 hx
  exact ok_dot _ _
theorem ok_mm {a b : List (List GIval)} (hb : (b.headD []).length ≤ 24) : okM (mmI a b) := fun r hr => by
  obtain ⟨s, _, rfl⟩ := List.mem_map.1 hr
  refine ⟨fun x hx => ?_, by unfold rowI; rw [List.length_map, List.length_range]; omega⟩
  obtain ⟨j, _, rfl⟩ := List.mem_map.1 hx
  exact ok_dot _ _
theorem linProducts_ev (a b : List (List GIval)) (v : List GIval) (h1 : a.length ≤ maxLen ∧ ∀ r ∈ a, (r.length ≤ maxLen ∧ ∀ z ∈ r, GIval.ok z)) (h2 : b.length ≤ maxLen ∧ ∀ r ∈ b, (r.length ≤ maxLen ∧ ∀ z ∈ r, GIval.ok z)) (h3 : v.length ≤ maxLen ∧ ∀ z ∈ v, GIval.ok z) : Ev_law04_LinProducts a b v true := by
  obtain ⟨ha, la⟩ := okM_of h1
  obtain ⟨hb, lb⟩ := okM_of h2
  obtain ⟨hv, lv⟩ := okL_of h3
  obtain ⟨hf, lf⟩ := ok_head ha
  refine walk_law04_LinProducts ?_
  unfold W_law04_LinProducts
  refine Call.mk first_ev (Call.mk (dot_ev hv hf lv lf) ⟨fun x => x = !decide (vecB v = true ∧ vecB (a.headD []) = true ∧ v.length = (a.headD []).length), ?_, fun x hx => ?_⟩)
  · refine Call.mk (refvector_ev hv lv) ?_
    cases hvB : vecB v with
    | false => exact Br.t rfl (by simp)
    | true =>
      refine Br.f rfl (Call.mk first_ev (Call.mk (refvector_ev hf lf) ?_))
      cases hfB : vecB (a.headD []) with
      | false => exact Br.t rfl (by simp)
      | true =>
        refine Br.f rfl (Call.mk first_ev ?_)
        by_cases hl : v.length = (a.headD []).length
        · simp [hl]
        · show (_ != _) = !decide _
          rw [decide_eq_false (fun h => hl h.2.2), bne, beq_false_of_ne (by omega)]
  subst hx
  refine ⟨True, ?_, fun _ => ?_⟩
  · by_cases hc : vecB v = true ∧ vecB (a.headD []) = true ∧ v.length = (a.headD []).length
    · rw [if_pos hc]
      exact Br.f (by rw [decide_eq_true hc]; rfl) (Br.f (by simp) (Call.mk first_ev (Call.mk (refdot_ev hv hf lv hc.2.2) (Call.mk (refsame_ival (ok_dot _ _)) (Br.f rfl trivial)))))
    · rw [if_neg hc]
      exact Br.t (by rw [decide_eq_false hc]; rfl) (Br.f (by simp) trivial)
  refine Call.mk (apply_ev ha hv la lv) ⟨fun x => x = !appB a v, ?_, fun x hx => ?_⟩
  · refine Call.mk (refmatrix_ev ha la) ?_
    unfold appB
    cases haB : matB a with
    | false => exact Br.t rfl (by simp)
    | true =>
      have hat := matB_true haB
      refine Br.f rfl (Call.mk (refvector_ev hv lv) ?_)
      cases hvB : vecB v with
      | false => exact Br.t rfl (by simp)
      | true =>
        refine Br.f rfl (At.nat (i := 0) (by omega) fun x0 hx0 => ?_)
        rw [headD_of hx0]
        by_cases hl : x0.length = v.length
        · simp [hl]
        · simp [hl]
          omega
  subst hx
  refine ⟨True, ?_, fun _ => ?_⟩
  · cases hc : appB a v with
    | false => exact Br.t rfl (by rw [if_neg (by simp)]; exact Br.f (by simp) (Br.f (by simp) trivial))
    | true =>
      have hc' := hc
      unfold appB at hc'
      rw [Bool.and_eq_true, Bool.and_eq_true, decide_eq_true_iff] at hc'
      have hat := matB_true hc'.1
      refine Br.f rfl (by rw [if_pos rfl]; exact Br.f (by simp) (Call.mk (refapply_ev ha hv hat.2.2 (fun r hr => by rw [(hat.1 r hr).2, hc'.2.2])) (Call.mk (same_vec ok_app (by unfold appI; rw [List.length_map]; exact la)) (Br.f rfl trivial))))
  refine Call.mk (linmul_ev ha hb la lb) ⟨fun x => x = !mmB a b, ?_, fun x hx => ?_⟩
  · refine Call.mk (refmatrix_ev ha la) ?_
    unfold mmB
    cases haB : matB a with
    | false => exact Br.t rfl (by simp)
    | true =>
      have hat := matB_true haB
      refine Br.f rfl (Call.mk (refmatrix_ev hb lb) ?_)
      cases hbB : matB b with
      | false => exact Br.t rfl (by simp)
      | true =>
        refine Br.f rfl (At.nat (i := 0) (by omega) fun x0 hx0 => ?_)
        rw [headD_of hx0]
        by_cases hl : x0.length = b.length
        · simp [hl]
        · simp [hl]
          omega
  subst hx
  cases hc : mmB a b with
  | false => exact Br.t rfl (by rw [if_neg (by simp)]; exact Br.t rfl rfl)
  | true =>
    have hc' := hc
    unfold mmB at hc'
    rw [Bool.and_eq_true, Bool.and_eq_true, decide_eq_true_iff] at hc'
    have hbt := matB_true hc'.2.1
    have hlb : (b.headD []).length ≤ 24 := by
      cases b with
      | nil => simp
      | cons r l => exact (vecB_true (hbt.1 r (List.mem_cons_self ..)).1).2.2
    refine Br.f rfl (by rw [if_pos rfl]; exact Br.t rfl (Call.mk (reflinmul_ev ha hb hc) (Call.mk (same_mat (ok_mm hlb) (by unfold mmI; rw [List.length_map]; exact la)) rfl)))
end Go.Sim.Ytlglkgineclggaa
