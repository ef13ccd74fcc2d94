/- What is proved: what ival's functions and the reference's make of any intervals, infinite ends, empty ones and wrong ones too: the same. -/
import Derived.Test.YtlglkgineclggaaDoorZRTFltZ3
namespace Go.Sim.YtlglkgineclggaaDoor
open Go.RowKit Go.Proofs Go.Proofs.Tryd
set_option exponentiation.threshold 5000
/-- The words of the infinite ends. -/
def infB (s : Bool) : Nat := if s = true then 18442240474082181120 else 9218868437227405312
def EMP : GIval := ⟨9218868437227405312, 18442240474082181120⟩
theorem NumB.inf (s : Bool) : NumB (infB s) := by cases s <;> exact ⟨by decide, by decide, by decide⟩
/-- The exact sum's word, and the exact product's; of infinite ones too. -/
def addX (a b : Nat) (dir : Int) : Nat := if isF a then (if isF b then addB a b dir else b) else a
def mulX (a b : Nat) (dir : Int) : Nat := if rungB a = 0 ∨ rungB b = 0 then 0 else if isF a ∧ isF b then mulB a b dir else infB (negB a != negB b)
theorem NumB.zero : NumB 0 := ⟨by decide, by decide, by decide⟩
theorem NumB.add {a b : Nat} (ha : NumB a) (hb : NumB b) (dir : Int) : NumB (addX a b dir) := by
  unfold addX
  split
  · split
    · rw [addB_rd]; exact rd_num _ _ _
    · exact hb
  · exact ha
theorem NumB.mul (a b : Nat) (dir : Int) : NumB (mulX a b dir) := by
  unfold mulX
  split
  · exact NumB.zero
  · split
    · rw [mulB_rd]; exact rd_num _ _ _
    · exact NumB.inf _
/-! ### Which intervals may be -/
def okI (x : GIval) : Prop := x.Lo < 18446744073709551616 ∧ x.Hi < 18446744073709551616
def emptyP (x : GIval) : Prop := fI x.Lo = 9218868437227405312 ∧ fI x.Hi = -9218868437227405312
/-- It may be, and holds something. -/
def RIp (x : GIval) : Prop := isN x.Lo ∧ isN x.Hi ∧ fI x.Lo ≤ fI x.Hi ∧ fI x.Lo < 9218868437227405312 ∧ -9218868437227405312 < fI x.Hi ∧ x.Lo ≠ 9223372036854775808 ∧ x.Hi ≠ 9223372036854775808
instance (b : Nat) : Decidable (isN b) := by unfold isN; infer_instance
instance (x : GIval) : Decidable (emptyP x) := by unfold emptyP; infer_instance
instance (x : GIval) : Decidable (RIp x) := by unfold RIp; infer_instance
def rightB (x : GIval) : Bool := decide (emptyP x ∨ RIp x)
theorem eq_inf {v : Nat} (hv : v < 18446744073709551616) : (FloatKind.f64.format.order v 9218868437227405312 == some .eq) = decide (fI v = 9218868437227405312) := by
  rw [fmt64, order_eqv hv (by decide), fI_inf.1, decide_eq_decide]
  exact ⟨fun h => h.2.2, fun h => ⟨by unfold isN; omega, isN_inf.1, h⟩⟩
theorem eq_ninf {v : Nat} (hv : v < 18446744073709551616) : (FloatKind.f64.format.order v 18442240474082181120 == some .eq) = decide (fI v = -9218868437227405312) := by
  rw [fmt64, order_eqv hv (by decide), fI_inf.2, decide_eq_decide]
  exact ⟨fun h => h.2.2, fun h => ⟨by unfold isN; omega, isN_inf.2, h⟩⟩
theorem le_b {a b : Nat} (ha : a < 18446744073709551616) (hb : b < 18446744073709551616) : ((FloatKind.f64.format.order a b == some .lt) || (FloatKind.f64.format.order a b == some .eq)) = decide (isN a ∧ isN b ∧ fI a ≤ fI b) := by
  rw [fmt64, order_lt ha hb, order_eqv ha hb, Bool.eq_iff_iff, Bool.or_eq_true, decide_eq_true_iff, decide_eq_true_iff, decide_eq_true_iff]
  constructor
  · rintro (⟨h1, h2, h⟩ | ⟨h1, h2, h⟩) <;> exact ⟨h1, h2, by omega⟩
  · rintro ⟨h1, h2, h⟩
    by_cases e : fI a = fI b
    · exact .inr ⟨h1, h2, e⟩
    · exact .inl ⟨h1, h2, by omega⟩
theorem refinf1_ev : Ev_ref02_inf 1 9218868437227405312 := by
  refine walk_ref02_inf ?_
  unfold W_ref02_inf
  exact Call.mk inf1_ev rfl
theorem refinfm_ev : Ev_ref02_inf (-1) 18442240474082181120 := by
  refine walk_ref02_inf ?_
  unfold W_ref02_inf
  exact Call.mk infm_ev rfl
theorem refempty_ev : Ev_ref02_Empty EMP := by
  refine walk_ref02_Empty ?_
  unfold W_ref02_Empty
  exact Call.mk refinf1_ev (Call.mk refinfm_ev rfl)
theorem minus0_ev {v : Nat} (hv : v < 18446744073709551616) : Ev_ref02_minus0 v (decide (v = 9223372036854775808)) := by
  refine walk_ref02_minus0 ?_
  unfold W_ref02_minus0
  rw [eq_zero hv]
  refine Br.d (fun h => Call.mk (float64bits_ev v) ?_) (fun h => ?_)
  · unfold rungB at h
    by_cases h0 : v = 0
    · subst h0; rfl
    · have : v = 9223372036854775808 := by split at h <;> omega
      subst this; rfl
  · show false = _
    symm; rw [decide_eq_false_iff_not]; intro e; subst e; exact h rfl
theorem refright_ev' {x : GIval} (h : okI x) : Ev_ref02_Right x (rightB x) := by
  refine walk_ref02_Right ?_
  unfold W_ref02_Right
  have no : ¬ emptyP x → ¬ RIp x → false = rightB x := fun h1 h2 => by
    symm; unfold rightB; rw [decide_eq_false_iff_not]; exact fun h => h.elim h1 h2
  refine ⟨fun b => b = decide (emptyP x), Call.mk refinf1_ev ?_, fun b hb => ?_⟩
  · rw [eq_inf h.1]
    refine Br.d (fun h1 => Call.mk refinfm_ev ?_) (fun h1 => ?_)
    · rw [eq_ninf h.2]; show decide _ = decide _; rw [decide_eq_decide]; exact ⟨fun h2 => ⟨h1, h2⟩, fun h2 => h2.2⟩
    · show false = decide _; symm; rw [decide_eq_false_iff_not]; exact fun h2 => h1 h2.1
  subst hb
  rw [le_b h.1 h.2]
  refine Br.d (fun he => ?_) (fun he => Br.d (fun h1 => Call.mk refinf1_ev ?_) (fun h1 => no he (fun hr => h1 ⟨hr.1, hr.2.1, hr.2.2.1⟩)))
  · show true = rightB x; symm; unfold rightB; rw [decide_eq_true_iff]; exact .inl he
  · rw [bne, eq_inf h.1]
    by_cases h2 : fI x.Lo = 9218868437227405312
    · exact Br.f (by simp [h2]) (no he (fun hr => by have := hr.2.2.2.1; omega))
    · refine Br.t (by simp [h2]) (Call.mk refinfm_ev ?_)
      rw [bne, eq_ninf h.2]
      by_cases h3 : fI x.Hi = -9218868437227405312
      · exact Br.f (by simp [h3]) (no he (fun hr => by have := hr.2.2.2.2.1; omega))
      · refine Br.t (by simp [h3]) (Call.mk (minus0_ev h.1) ?_)
        by_cases h4 : x.Lo = 9223372036854775808
        · exact Br.f (by simp [h4]) (no he (fun hr => hr.2.2.2.2.2.1 h4))
        · refine Br.t (by simp [h4]) (Call.mk (minus0_ev h.2) ?_)
          have n1 := h1.1; have n2 := h1.2.1
          unfold isN at n1 n2
          unfold rightB
          rw [← decide_not]
          show decide _ = decide _
          rw [decide_eq_decide]
          exact ⟨fun h5 => .inr ⟨h1.1, h1.2.1, h1.2.2, by omega, by omega, h4, h5⟩, fun h5 => h5.elim (fun h => absurd h he) (fun h => h.2.2.2.2.2.2)⟩
/-! ### What is made of two ends -/
def cleanB (b : Nat) : Nat := if rungB b = 0 then 0 else b
def makeI (lo hi : Nat) : GIval := if rightB ⟨cleanB lo, cleanB hi⟩ = true then ⟨cleanB lo, cleanB hi⟩ else EMP
theorem cleanB_lt {b : Nat} (hb : b < 18446744073709551616) : cleanB b < 18446744073709551616 := by unfold cleanB; split <;> omega
theorem cleanB_num {b : Nat} (hb : NumB b) : cleanB b = b := by
  unfold cleanB
  split
  · rename_i h
    have := hb.z
    unfold rungB at h
    split at h <;> omega
  · rfl
theorem ok_emp : okI EMP := ⟨by decide, by decide⟩
theorem zero_ev02 {v : Nat} (hv : v < 18446744073709551616) : Ev_ref02_zero v (cleanB v) := by
  refine walk_ref02_zero ?_
  unfold W_ref02_zero
  rw [eq_zero hv]
  unfold cleanB
  exact Br.d (fun h => by rw [if_pos h]) (fun h => by rw [if_neg h])
theorem refmake_ev {lo hi : Nat} (hl : lo < 18446744073709551616) (hh : hi < 18446744073709551616) : Ev_ref02_Make lo hi (makeI lo hi) := by
  refine walk_ref02_Make ?_
  unfold W_ref02_Make
  refine Call.mk (zero_ev02 hl) (Call.mk (zero_ev02 hh) (Call.mk (refright_ev' ⟨cleanB_lt hl, cleanB_lt hh⟩) ?_))
  unfold makeI
  cases hr : rightB ⟨cleanB lo, cleanB hi⟩ with
  | true => exact Br.f rfl (by rw [if_pos rfl])
  | false => exact Br.t rfl (Call.mk refempty_ev (by rw [if_neg (by decide)]))
/-! ### Sums and products -/
theorem RIp.lo {x : GIval} (h : okI x) (r : RIp x) : NumB x.Lo := ⟨h.1, r.1, r.2.2.2.2.2.1⟩
theorem RIp.hi {x : GIval} (h : okI x) (r : RIp x) : NumB x.Hi := ⟨h.2, r.2.1, r.2.2.2.2.2.2⟩
theorem Loop2.two {α : Type} {a0 a1 a2 : α} {B : α → Int → (α → Int → Prop) → Prop} (h0 : ∀ k : α → Int → Prop, k a1 1 → B a0 0 k) (h1 : ∀ k : α → Int → Prop, k a2 2 → B a1 1 k)
    (h2 : ∀ k : α → Int → Prop, B a2 2 k) : Loop2 a0 (0 : Int) B := by
  refine ⟨fun a i => (i = 0 ∧ a = a0) ∨ (i = 1 ∧ a = a1) ∨ (i = 2 ∧ a = a2), fun _ i => (2 - i).toNat, .inl ⟨rfl, rfl⟩, ?_⟩
  rintro a i (⟨rfl, rfl⟩ | ⟨rfl, rfl⟩ | ⟨rfl, rfl⟩)
  · exact h0 _ ⟨.inr (.inl ⟨rfl, rfl⟩), by show (2 - (1 : Int)).toNat < (2 - (0 : Int)).toNat; decide⟩
  · exact h1 _ ⟨.inr (.inr ⟨rfl, rfl⟩), by show (2 - (2 : Int)).toNat < (2 - (1 : Int)).toNat; decide⟩
  · exact h2 _
end Go.Sim.YtlglkgineclggaaDoor
