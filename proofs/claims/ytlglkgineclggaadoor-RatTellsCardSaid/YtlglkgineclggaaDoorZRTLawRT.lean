/- What is proved: RatTells: numbers are written, and held by an interval, as the reference does. -/
import Derived.Test.YtlglkgineclggaaDoorZRTRatT
import Derived.Test.YtlglkgineclggaaDoorZRTLawRB
import Derived.Test.YtlglkgineclggaaDoorZRTLinX
import Derived.Test.YtlglkgineclggaaDoorZRTShelf
import Derived.Lib.ItoaLen
import Derived.ProofKit
namespace Go.Sim.YtlglkgineclggaaDoor
open Go.RowKit Go.Proofs Go.Proofs.Tryd
set_option exponentiation.threshold 5000
/-- A whole number's decimal numeral. -/
def fm (n : Int) : ByteArray := ⟨(Lib.itoa n).toArray⟩
theorem fm_size {n : Int} (h : Sim.inI n) : (fm n).size ≤ 21 := by
  unfold Sim.inI at h
  have := Lib.itoa_length_le n (by omega) (by omega)
  show (Lib.itoa n).toArray.size ≤ 21
  simpa using this
theorem fmt_ev {n : Int} (h : Sim.inI n) : Ev_internal_strconv_FormatInt n 10 (fm n) := by
  unfold Sim.inI at h
  refine ⟨⟨_, Tryd.func39, by kernel_rfl, by kernel_rfl⟩, fun F w vs hgl hvs => ?_⟩
  have hv : vs = [.int .i64 n, .int .i64 10] := by
    cases hvs with
    | cons h1 hr =>
      cases hr with
      | cons h2 hr2 =>
        cases hr2
        simp only [RepV, RepD, List.cons.injEq, and_true] at h1 h2
        rw [h1.1, h2.1]
  subst hv
  refine Calls.mono (Tryd.internal_strconv_FormatInt_10 n (by omega) (by omega) w (hgl w (Nat.le_refl _) fun _ _ _ => rfl)) ?_
  rintro e w' ⟨rfl, k, os, rfl⟩
  refine ⟨_, rfl, ⟨rfl, rfl, rfl, ?_, fun i hi => ?_⟩, rfl, rfl⟩
  · simp [Go.Sort.grow, World.drewN]
  · simp only [Go.Sort.grow, World.drewN]
    exact Array.getElem?_append_left hi
theorem fmt2_ev {n : Int} (h : Sim.inI n) : Ev_strconv_FormatInt n 10 (fm n) := by
  refine walk_strconv_FormatInt ?_
  unfold W_strconv_FormatInt
  exact Call.mk (fmt_ev h) rfl
theorem itoa_ev {n : Int} (h : Sim.inI n) : Ev_strconv_Itoa n (fm n) := by
  refine walk_strconv_Itoa ?_
  unfold W_strconv_Itoa
  refine Call.mk (x := fm n) (walk_internal_strconv_Itoa ?_) rfl
  unfold W_internal_strconv_Itoa
  exact Call.mk (fmt_ev h) rfl
/-- How a number is written. -/
def told (a : GRat) : ByteArray := if a.right = true then (if a.D = 1 then fm a.N else fm a.N ++ ⟨#[47]⟩ ++ fm a.D) else ⟨#[]⟩
theorem slash : (⟨#[47]⟩ : ByteArray).size = 1 := rfl
theorem told_ev {a : GRat} (ha : a.inI) : Ev_rat_Print a (told a) := by
  have s1 := fm_size ha.1
  have s2 := fm_size ha.2
  refine walk_rat_Print ?_
  unfold W_rat_Print told
  refine Call.mk (right_ev ha) ?_
  by_cases h : a.right = true
  rotate_left
  · rw [if_neg h]; exact Br.t (by simpa using h) rfl
  · rw [if_pos h]
    refine Br.f (by simpa using h) ?_
    refine Br.e (fun h1 => ?_) (fun h1 => ?_)
    · rw [if_pos h1]; exact Call.mk (fmt2_ev ha.1) rfl
    · rw [if_neg h1]
      refine Call.mk (fmt2_ev ha.1) ⟨by rw [slash]; omega, Let.as _ rfl (Call.mk (fmt2_ev ha.2) ⟨by rw [ByteArray.size_append, slash]; omega, Let.as _ rfl rfl⟩)⟩
theorem reftold_ev {a : GRat} (ha : a.inI) : Ev_ref11_Print a (told a) := by
  have s1 := fm_size ha.1
  have s2 := fm_size ha.2
  refine walk_ref11_Print ?_
  unfold W_ref11_Print told
  refine Call.mk (refright_ev ha) ?_
  by_cases h : a.right = true
  rotate_left
  · rw [if_neg h]; exact Br.t (by simpa using h) rfl
  · rw [if_pos h]
    refine Br.f (by simpa using h) (Call.mk (itoa_ev ha.1) ?_)
    by_cases h1 : a.D = 1
    · rw [if_pos h1]; exact Br.f (by simp [h1]) rfl
    · rw [if_neg h1]
      exact Br.t (by simp [h1]) ⟨by rw [slash]; omega, Let.as _ rfl (Call.mk (itoa_ev ha.2) ⟨by rw [ByteArray.size_append, slash]; omega, Let.as _ rfl rfl⟩)⟩
theorem num_ev {n : Int} (h : Sim.inI n) : Ev_ref11_Num n (numZ (decide (n < 0)) n.natAbs 0) := by
  refine walk_ref11_Num ?_
  unfold W_ref11_Num
  exact Call.mk (size_ev h) rfl
theorem rip_fin {x : GIval} (h : FinI x) : RIp x := by
  have f1 := h.fl
  have f2 := h.fh
  unfold isF at f1 f2
  exact ⟨h.fl.n, h.fh.n, h.le, by omega, by omega, h.zl, h.zh⟩
theorem makeI_fin {x : GIval} (h : FinI x) : makeI x.Lo x.Hi = x := by
  have c1 := cleanB_num (b := x.Lo) ⟨h.l, h.fl.n, h.zl⟩
  have c2 := cleanB_num (b := x.Hi) ⟨h.h, h.fh.n, h.zh⟩
  unfold makeI
  rw [c1, c2, if_pos]
  unfold rightB
  rw [decide_eq_true_iff]
  exact .inr (rip_fin h)
/-- The interval of a number. -/
def heldI (a : GRat) : GIval := if a.right = true then holdS a else EMP
theorem held_ev {a : GRat} (ha : a.inI) : Ev_rat_Hold a (heldI a) := by
  unfold heldI
  by_cases h : a.right = true
  · rw [if_pos h]; exact hold_ev ha h (ends_of ha h).fin
  · rw [if_neg h]
    refine walk_rat_Hold ?_
    unfold W_rat_Hold
    exact Call.mk (right_ev ha) (Br.t (by simpa using h) (Call.mk empty_ev rfl))
theorem refheld_ev {a : GRat} (ha : a.inI) : Ev_ref11_Hold a (heldI a) := by
  refine walk_ref11_Hold ?_
  unfold W_ref11_Hold heldI
  by_cases h : a.right = true
  · rw [if_pos h]
    obtain ⟨p1, _, _⟩ := GRat.right_spec.1 h
    have hf := (ends_of ha h).fin
    have eD : decide (a.D < 0) = false := decide_eq_false (by omega)
    have hD := num_ev ha.2
    rw [eD] at hD
    refine Call.mk (refright_ev ha) (Br.f (by simpa using h) (Call.mk (num_ev ha.1) (Call.mk hD (Call.mk (refround_ev ha.1 p1 ha.2 (-1)) (Call.mk (refround_ev ha.1 p1 ha.2 1) ?_)))))
    have hm := refmake_ev hf.l hf.h
    rw [makeI_fin hf] at hm
    exact Call.mk hm rfl
  · rw [if_neg h]
    exact Call.mk (refright_ev ha) (Br.t (by simpa using h) (Call.mk refempty_ev rfl))
theorem ok_held {a : GRat} (ha : a.inI) : okI (heldI a) := by
  unfold heldI
  by_cases h : a.right = true
  · rw [if_pos h]; exact ⟨(ends_of ha h).fin.l, (ends_of ha h).fin.h⟩
  · rw [if_neg h]; exact ok_emp
theorem ratTells_ev (a : GRat) (h : GRat.ok a) : Ev_law11_RatTells a true := by
  have ha : a.inI := ⟨inI_ok h.1, inI_ok h.2⟩
  refine walk_law11_RatTells ?_
  unfold W_law11_RatTells
  exact Call.mk (told_ev ha) (Call.mk (reftold_ev ha) (Br.t (by simp) (Call.mk (held_ev ha) (Call.mk (refheld_ev ha) (Call.mk (refsame_ival (ok_held ha)) rfl)))))
end Go.Sim.YtlglkgineclggaaDoor
