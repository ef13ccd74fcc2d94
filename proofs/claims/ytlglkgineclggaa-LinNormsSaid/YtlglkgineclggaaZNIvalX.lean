/- What is proved: what ival's functions and the reference's make of any intervals, infinite ends, empty ones and wrong ones too: the same. -/
import Derived.Test.YtlglkgineclggaaZNFltZ3
namespace Go.Sim.Ytlglkgineclggaa
open Go.RowKit Go.Proofs Go.Proofs.Try
set_option exponentiation.threshold 5000
/-- The words of the infinite ends. -/
def infB (s : Bool) : Nat := if s = true then 18442240474082181120 else 9218868437227405312
def EMP : GIval := ⟨9218868437227405312, 18442240474082181120⟩
theorem NumB.inf (s : Bool) : NumB (infB s) := by cases s <;> exact ⟨by decide, by decide, by decide⟩
theorem fI_infB (s : Bool) : fI (infB s) = if s = true then -9218868437227405312 else 9218868437227405312 := by cases s <;> rfl
theorem inf_cases {a : Nat} (h : NumB a) (hf : ¬ isF a) : ∃ s, a = infB s := by
  have hn := h.n
  unfold isN at hn
  unfold isF at hf
  by_cases h0 : fI a ≤ 0
  · exact ⟨true, fI_inj h.z (NumB.inf true).z (by rw [fI_infB]; simp; omega)⟩
  · exact ⟨false, fI_inj h.z (NumB.inf false).z (by rw [fI_infB]; simp; omega)⟩
theorem read_inf (s : Bool) : Ieee.double.read (infB s) = .infinity s := by cases s <;> rfl
theorem write_inf (s : Bool) : Ieee.double.write (.infinity s) = infB s := by cases s <;> rfl
/-- The exact sum's word, and the exact product's; of infinite ones too. -/
def addX (a b : Nat) (dir : Int) : Nat := if isF a then (if isF b then addB a b dir else b) else a
def mulX (a b : Nat) (dir : Int) : Nat := if rungB a = 0 ∨ rungB b = 0 then 0 else if isF a ∧ isF b then mulB a b dir else infB (negB a != negB b)
theorem NumB.zero : NumB 0 := ⟨by decide, by decide, by decide⟩
theorem NumB.add {a b : Nat} (ha : NumB a) (hb : NumB b) (dir : Int) : NumB (addX a b dir) := by
  unfold addX
  split
  · split
    · rw [addB_rd]; exact rd_num _ _ _
    · exact hb
  · exact ha
theorem NumB.mul (a b : Nat) (dir : Int) : NumB (mulX a b dir) := by
  unfold mulX
  split
  · exact NumB.zero
  · split
    · rw [mulB_rd]; exact rd_num _ _ _
    · exact NumB.inf _
theorem fadd_inf {s : Bool} {b : Nat} (hb : b < 18446744073709551616) (fb : isF b) : farith .add .f64 (infB s) b = some (infB s) ∧ farith .add .f64 b (infB s) = some (infB s) := by
  obtain ⟨m, i, e, _⟩ := read_num hb fb
  constructor
  · show Ieee.double.add _ _ = _
    unfold Ieee.Format.add
    rw [e, read_inf]
    simp only [Ieee.Datum.sum, Option.map_some, write_inf]
  · show Ieee.double.add _ _ = _
    unfold Ieee.Format.add
    rw [e, read_inf]
    simp only [Ieee.Datum.sum, Option.map_some, write_inf]
theorem fadd_infs (s : Bool) : farith .add .f64 (infB s) (infB s) = some (infB s) := by
  show Ieee.double.add _ _ = _
  unfold Ieee.Format.add
  rw [read_inf]
  simp only [Ieee.Datum.sum, if_true, Option.map_some, write_inf]
/-- Not two infinite ends of unlike signs. -/
def Apart (a b : Nat) : Prop := isF a ∨ isF b ∨ a = b
theorem add_evX {a b : Nat} (dir : Int) (ha : NumB a) (hb : NumB b) (h : Apart a b) : Ev_ulp_Add a b dir (addX a b dir) := by
  by_cases fa : isF a
  · by_cases fb : isF b
    · unfold addX; rw [if_pos fa, if_pos fb]; exact add_ev dir ha.l hb.l fa fb
    · unfold addX; rw [if_pos fa, if_neg fb]
      obtain ⟨t, rfl⟩ := inf_cases hb fb
      refine walk_ulp_Add ?_
      unfold W_ulp_Add
      exact Call.mk (both_ev ha.l hb.l) (Br.t (by simp [fa, fb]) ⟨_, (fadd_inf ha.l fa).2, rfl⟩)
  · unfold addX; rw [if_neg fa]
    obtain ⟨s, rfl⟩ := inf_cases ha fa
    refine walk_ulp_Add ?_
    unfold W_ulp_Add
    refine Call.mk (both_ev ha.l hb.l) (Br.t (by simp [fa]) ?_)
    by_cases fb : isF b
    · exact ⟨_, (fadd_inf hb.l fb).1, rfl⟩
    · rcases h with h | h | h
      · exact absurd h fa
      · exact absurd h fb
      · subst h; exact ⟨_, fadd_infs s, rfl⟩
theorem refadd_evX {a b : Nat} (dir : Int) (ha : NumB a) (hb : NumB b) (h : Apart a b) : Ev_ref01_Add a b dir (addX a b dir) := by
  refine walk_ref01_Add ?_
  unfold W_ref01_Add
  refine ⟨fun x => x = false, Call.mk (isnum_ev ha.l) (Br.f (by simp [ha.n]) (Call.mk (isnum_ev hb.l) (by simp [hb.n]))), fun x hx => ?_⟩
  subst hx
  refine Br.f rfl ⟨fun x => x = decide (isF a ∧ isF b), Call.mk (finite_ev ha.l) (Br.d (fun fa => Call.mk (finite_ev hb.l) ?_) (fun fa => ?_)), fun x hx => ?_⟩
  · show decide _ = decide _; rw [decide_eq_decide]; exact ⟨fun h => ⟨fa, h⟩, fun h => h.2⟩
  · show false = decide _; symm; rw [decide_eq_false_iff_not]; exact fun h => fa h.1
  subst hx
  unfold addX
  refine Br.d (fun hf => ?_) (fun hf => Call.mk (finite_ev ha.l) (Br.d (fun fa => ?_) (fun fa => ?_)))
  · rw [if_pos hf.1, if_pos hf.2]
    obtain ⟨x, y, z, k1, k2, k3, k4⟩ := refsum_ev dir ha.l hb.l hf.1 hf.2
    exact Call.mk k1 (Call.mk k2 (Call.mk k3 (Call.mk k4 rfl)))
  · rw [if_pos fa, if_neg (fun fb => hf ⟨fa, fb⟩)]
  · rw [if_neg fa, fmt64, order_eqv ha.l hb.l]
    refine Br.d (fun e => (fI_inj ha.z hb.z e.2.2).symm) (fun e => Call.mk (finite_ev hb.l) (Br.d (fun fb => rfl) (fun fb => ?_)))
    rcases h with h | h | h
    · exact absurd h fa
    · exact absurd h fb
    · subst h; exact absurd ⟨ha.n, ha.n, rfl⟩ e
/-! ### Which intervals may be -/
def okI (x : GIval) : Prop := x.Lo < 18446744073709551616 ∧ x.Hi < 18446744073709551616
def emptyP (x : GIval) : Prop := fI x.Lo = 9218868437227405312 ∧ fI x.Hi = -9218868437227405312
/-- It may be, and holds something. -/
def RIp (x : GIval) : Prop := isN x.Lo ∧ isN x.Hi ∧ fI x.Lo ≤ fI x.Hi ∧ fI x.Lo < 9218868437227405312 ∧ -9218868437227405312 < fI x.Hi ∧ x.Lo ≠ 9223372036854775808 ∧ x.Hi ≠ 9223372036854775808
instance (b : Nat) : Decidable (isN b) := by unfold isN; infer_instance
instance (x : GIval) : Decidable (emptyP x) := by unfold emptyP; infer_instance
instance (x : GIval) : Decidable (RIp x) := by unfold RIp; infer_instance
def rightB (x : GIval) : Bool := decide (emptyP x ∨ RIp x)
def noneB (x : GIval) : Bool := !decide (RIp x)
theorem eq_inf {v : Nat} (hv : v < 18446744073709551616) : (FloatKind.f64.format.order v 9218868437227405312 == some .eq) = decide (fI v = 9218868437227405312) := by
  rw [fmt64, order_eqv hv (by decide), fI_inf.1, decide_eq_decide]
  exact ⟨fun h => h.2.2, fun h => ⟨by unfold isN; omega, isN_inf.1, h⟩⟩
theorem eq_ninf {v : Nat} (hv : v < 18446744073709551616) : (FloatKind.f64.format.order v 18442240474082181120 == some .eq) = decide (fI v = -9218868437227405312) := by
  rw [fmt64, order_eqv hv (by decide), fI_inf.2, decide_eq_decide]
  exact ⟨fun h => h.2.2, fun h => ⟨by unfold isN; omega, isN_inf.2, h⟩⟩
theorem le_b {a b : Nat} (ha : a < 18446744073709551616) (hb : b < 18446744073709551616) : ((FloatKind.f64.format.order a b == some .lt) || (FloatKind.f64.format.order a b == some .eq)) = decide (isN a ∧ isN b ∧ fI a ≤ fI b) := by
  rw [fmt64, order_lt ha hb, order_eqv ha hb, Bool.eq_iff_iff, Bool.or_eq_true, decide_eq_true_iff, decide_eq_true_iff, decide_eq_true_iff]
  constructor
  · rintro (⟨h1, h2, h⟩ | ⟨h1, h2, h⟩) <;> exact ⟨h1, h2, by omega⟩
  · rintro ⟨h1, h2, h⟩
    by_cases e : fI a = fI b
    · exact .inr ⟨h1, h2, e⟩
    · exact .inl ⟨h1, h2, by omega⟩
theorem ge_b {a b : Nat} (ha : a < 18446744073709551616) (hb : b < 18446744073709551616) : ((FloatKind.f64.format.order a b == some .gt) || (FloatKind.f64.format.order a b == some .eq)) = decide (isN a ∧ isN b ∧ fI b ≤ fI a) := by
  rw [fmt64, order_gt ha hb, order_eqv ha hb, Bool.eq_iff_iff, Bool.or_eq_true, decide_eq_true_iff, decide_eq_true_iff, decide_eq_true_iff]
  constructor
  · rintro (⟨h1, h2, h⟩ | ⟨h1, h2, h⟩) <;> exact ⟨h1, h2, by omega⟩
  · rintro ⟨h1, h2, h⟩
    by_cases e : fI a = fI b
    · exact .inr ⟨h1, h2, e⟩
    · exact .inl ⟨h1, h2, by omega⟩
theorem beq_emp {x : GIval} (h : okI x) : GIval.beq x ⟨9218868437227405312, 18442240474082181120⟩ = decide (emptyP x) := by
  unfold GIval.beq
  simp only [Bool.and_true]
  rw [eq_inf h.1, eq_ninf h.2]
  rw [Bool.eq_iff_iff, Bool.and_eq_true, decide_eq_true_iff, decide_eq_true_iff, decide_eq_true_iff]
  exact Iff.rfl
theorem plus_evX {v : Nat} (hv : v < 18446744073709551616) : Ev_ival_plus v (decide (v ≠ 9223372036854775808)) := by
  by_cases h : v = 9223372036854775808
  · subst h
    refine walk_ival_plus ?_
    unfold W_ival_plus
    refine Br.f (by decide) (Call.mk (x := true) (walk_math_Signbit ?_) rfl)
    unfold W_math_Signbit
    exact Call.mk (float64bits_ev _) (Let.as (-9223372036854775808 : Int) (by decide) rfl)
  · rw [decide_eq_true h]; exact iplus_ev hv h
theorem right_evX {x : GIval} (h : okI x) : Ev_ival_Right x (rightB x) := by
  refine walk_ival_Right ?_
  unfold W_ival_Right
  refine Call.mk empty_ev ?_
  rw [beq_emp h, le_b h.1 h.2]
  have no : ∀ {p : Prop}, ¬ emptyP x → ¬ RIp x → false = rightB x := fun h1 h2 => by
    symm; unfold rightB; rw [decide_eq_false_iff_not]; exact fun h => h.elim h1 h2
  refine Br.d (fun he => ?_) (fun he => Br.d (fun h1 => ?_) (fun h1 => no (p := True) he (fun hr => h1 ⟨hr.1, hr.2.1, hr.2.2.1⟩)))
  · show true = rightB x; symm; unfold rightB; rw [decide_eq_true_iff]; exact .inl he
  · rw [fmt64]
    refine Call.mk inf1_ev ?_
    rw [order_lt h.1 (by decide), fI_inf.1]
    refine Br.d (fun h2 => Call.mk infm_ev ?_) (fun h2 => no (p := True) he (fun hr => h2 ⟨hr.1, isN_inf.1, hr.2.2.2.1⟩))
    rw [order_gt h.2 (by decide), fI_inf.2]
    refine Br.d (fun h3 => Call.mk (plus_evX h.1) (Br.d (fun h4 => Call.mk (plus_evX h.2) ?_) (fun h4 => no (p := True) he (fun hr => h4 hr.2.2.2.2.2.1)))) (fun h3 => no (p := True) he (fun hr => h3 ⟨hr.2.1, isN_inf.2, hr.2.2.2.2.1⟩))
    show decide _ = rightB x
    unfold rightB
    rw [decide_eq_decide]
    exact ⟨fun h5 => .inr ⟨h1.1, h1.2.1, h1.2.2, h2.2.2, h3.2.2, h4, h5⟩, fun h5 => h5.elim (fun h => absurd h he) (fun h => h.2.2.2.2.2.2)⟩
theorem not_both {x : GIval} (h : RIp x) : ¬ emptyP x := fun e => by
  have h1 := h.2.2.2.1; have h2 := e.1; omega
theorem none_evX {l : List GIval} (hl : ∀ x ∈ l, okI x) (hn : l.length ≤ 1000) : Ev_ival_none l (l.any noneB) := by
  refine walk_ival_none ?_
  unfold W_ival_none
  refine Loop1.up l.length (fun i => ∀ j, j < i → ∀ x, l[j]? = some x → RIp x) (fun j hj => by omega) ?_
  intro i k hi hP hk
  refine Br.d (fun h => At.nat (by omega) fun x hx => ?_) (fun hlt => ?_)
  · have hx1 := hl x (List.mem_of_getElem? hx)
    have hany : ¬ RIp x → true = l.any noneB := fun hr => by
      symm; rw [List.any_eq_true]; exact ⟨x, List.mem_of_getElem? hx, by unfold noneB; rw [decide_eq_false hr]; rfl⟩
    refine Call.mk (right_evX hx1) ?_
    by_cases hr : RIp x
    · refine Br.f (by unfold rightB; rw [decide_eq_true (.inr hr)]; rfl) (Call.mk empty_ev (Br.f ?_ (Let.as _ (wi1 (by omega)) (hk (by omega) fun j hj y hy => ?_))))
      · rw [beq_emp hx1, decide_eq_false (not_both hr)]
      · by_cases hji : j = i
        · subst hji; rw [hx] at hy; cases hy; exact hr
        · exact hP j (by omega) y hy
    · by_cases he : emptyP x
      · exact Br.f (by unfold rightB; rw [decide_eq_true (.inl he)]; rfl) (Call.mk empty_ev (Br.t (by rw [beq_emp hx1, decide_eq_true he]) (hany hr)))
      · exact Br.t (by unfold rightB; rw [decide_eq_false (fun h => h.elim he hr)]; rfl) (hany hr)
  · show false = l.any noneB
    symm; rw [List.any_eq_false]
    intro x hx
    obtain ⟨j, hj, e⟩ := List.getElem_of_mem hx
    have := hP j (by omega) x (by rw [List.getElem?_eq_getElem hj, e])
    unfold noneB; rw [decide_eq_true this]; decide
theorem refinf1_ev : Ev_ref02_inf 1 9218868437227405312 := by
  refine walk_ref02_inf ?_
  unfold W_ref02_inf
  exact Call.mk inf1_ev rfl
theorem refinfm_ev : Ev_ref02_inf (-1) 18442240474082181120 := by
  refine walk_ref02_inf ?_
  unfold W_ref02_inf
  exact Call.mk infm_ev rfl
theorem refempty_ev : Ev_ref02_Empty EMP := by
  refine walk_ref02_Empty ?_
  unfold W_ref02_Empty
  exact Call.mk refinf1_ev (Call.mk refinfm_ev rfl)
theorem minus0_ev {v : Nat} (hv : v < 18446744073709551616) : Ev_ref02_minus0 v (decide (v = 9223372036854775808)) := by
  refine walk_ref02_minus0 ?_
  unfold W_ref02_minus0
  rw [eq_zero hv]
  refine Br.d (fun h => Call.mk (float64bits_ev v) ?_) (fun h => ?_)
  · unfold rungB at h
    by_cases h0 : v = 0
    · subst h0; rfl
    · have : v = 9223372036854775808 := by split at h <;> omega
      subst this; rfl
  · show false = _
    symm; rw [decide_eq_false_iff_not]; intro e; subst e; exact h rfl
theorem refright_ev' {x : GIval} (h : okI x) : Ev_ref02_Right x (rightB x) := by
  refine walk_ref02_Right ?_
  unfold W_ref02_Right
  have no : ¬ emptyP x → ¬ RIp x → false = rightB x := fun h1 h2 => by
    symm; unfold rightB; rw [decide_eq_false_iff_not]; exact fun h => h.elim h1 h2
  refine ⟨fun b => b = decide (emptyP x), Call.mk refinf1_ev ?_, fun b hb => ?_⟩
  · rw [eq_inf h.1]
    refine Br.d (fun h1 => Call.mk refinfm_ev ?_) (fun h1 => ?_)
    · rw [eq_ninf h.2]; show decide _ = decide _; rw [decide_eq_decide]; exact ⟨fun h2 => ⟨h1, h2⟩, fun h2 => h2.2⟩
    · show false = decide _; symm; rw [decide_eq_false_iff_not]; exact fun h2 => h1 h2.1
  subst hb
  rw [le_b h.1 h.2]
  refine Br.d (fun he => ?_) (fun he => Br.d (fun h1 => Call.mk refinf1_ev ?_) (fun h1 => no he (fun hr => h1 ⟨hr.1, hr.2.1, hr.2.2.1⟩)))
  · show true = rightB x; symm; unfold rightB; rw [decide_eq_true_iff]; exact .inl he
  · rw [bne, eq_inf h.1]
    by_cases h2 : fI x.Lo = 9218868437227405312
    · exact Br.f (by simp [h2]) (no he (fun hr => by have := hr.2.2.2.1; omega))
    · refine Br.t (by simp [h2]) (Call.mk refinfm_ev ?_)
      rw [bne, eq_ninf h.2]
      by_cases h3 : fI x.Hi = -9218868437227405312
      · exact Br.f (by simp [h3]) (no he (fun hr => by have := hr.2.2.2.2.1; omega))
      · refine Br.t (by simp [h3]) (Call.mk (minus0_ev h.1) ?_)
        by_cases h4 : x.Lo = 9223372036854775808
        · exact Br.f (by simp [h4]) (no he (fun hr => hr.2.2.2.2.2.1 h4))
        · refine Br.t (by simp [h4]) (Call.mk (minus0_ev h.2) ?_)
          have n1 := h1.1; have n2 := h1.2.1
          unfold isN at n1 n2
          unfold rightB
          rw [← decide_not]
          show decide _ = decide _
          rw [decide_eq_decide]
          exact ⟨fun h5 => .inr ⟨h1.1, h1.2.1, h1.2.2, by omega, by omega, h4, h5⟩, fun h5 => h5.elim (fun h => absurd h he) (fun h => h.2.2.2.2.2.2)⟩
theorem refnone_ev {x : GIval} (h : okI x) : Ev_ref02_None x (noneB x) := by
  refine walk_ref02_None ?_
  unfold W_ref02_None
  refine Call.mk (refright_ev' h) ?_
  unfold noneB
  by_cases hr : RIp x
  · refine Br.f (by unfold rightB; rw [decide_eq_true (.inr hr)]; rfl) ?_
    rw [decide_eq_true hr, fmt64, order_gt h.1 h.2]
    show decide _ = !true
    rw [Bool.not_true, decide_eq_false_iff_not]
    exact fun k => by have := hr.2.2.1; have := k.2.2; omega
  · rw [decide_eq_false hr]
    by_cases he : emptyP x
    · refine Br.f (by unfold rightB; rw [decide_eq_true (.inl he)]; rfl) ?_
      rw [fmt64, order_gt h.1 h.2]
      show decide _ = !false
      rw [Bool.not_false, decide_eq_true_iff]
      have h1 := he.1; have h2 := he.2
      exact ⟨by unfold isN; omega, by unfold isN; omega, by omega⟩
    · exact Br.t (by unfold rightB; rw [decide_eq_false (fun h => h.elim he hr)]; rfl) rfl
/-! ### What is made of two ends -/
def cleanB (b : Nat) : Nat := if rungB b = 0 then 0 else b
def makeI (lo hi : Nat) : GIval := if rightB ⟨cleanB lo, cleanB hi⟩ = true then ⟨cleanB lo, cleanB hi⟩ else EMP
theorem cleanB_lt {b : Nat} (hb : b < 18446744073709551616) : cleanB b < 18446744073709551616 := by unfold cleanB; split <;> omega
theorem cleanB_num {b : Nat} (hb : NumB b) : cleanB b = b := by
  unfold cleanB
  split
  · rename_i h
    have := hb.z
    unfold rungB at h
    split at h <;> omega
  · rfl
theorem ok_emp : okI EMP := ⟨by decide, by decide⟩
theorem ok_make {lo hi : Nat} (hl : lo < 18446744073709551616) (hh : hi < 18446744073709551616) : okI (makeI lo hi) := by
  unfold makeI
  split
  · exact ⟨cleanB_lt hl, cleanB_lt hh⟩
  · exact ok_emp
theorem add_zeroX {b : Nat} (hb : b < 18446744073709551616) (hn : isN b) : farith .add .f64 b 0 = some (cleanB b) := by
  by_cases hz : b = 9223372036854775808
  · subst hz; rfl
  · by_cases hf : isF b
    · rw [cleanB_num ⟨hb, hn, hz⟩]; exact add_zero hb hf hz
    · obtain ⟨s, rfl⟩ := inf_cases ⟨hb, hn, hz⟩ hf
      rw [cleanB_num (NumB.inf s)]
      exact (fadd_inf (by decide) (by decide)).1
theorem make_evX {lo hi : Nat} (hl : lo < 18446744073709551616) (hh : hi < 18446744073709551616) (nl : isN lo) (nh : isN hi) : Ev_ival_Make lo hi (makeI lo hi) := by
  refine walk_ival_Make ?_
  unfold W_ival_Make
  refine ⟨_, add_zeroX hl nl, _, add_zeroX hh nh, Call.mk (right_evX ⟨cleanB_lt hl, cleanB_lt hh⟩) ?_⟩
  unfold makeI
  cases hr : rightB ⟨cleanB lo, cleanB hi⟩ with
  | true => exact Br.f rfl (by rw [if_pos rfl])
  | false => exact Br.t rfl (Call.mk empty_ev (by rw [if_neg (by decide)]; rfl))
theorem zero_ev02 {v : Nat} (hv : v < 18446744073709551616) : Ev_ref02_zero v (cleanB v) := by
  refine walk_ref02_zero ?_
  unfold W_ref02_zero
  rw [eq_zero hv]
  unfold cleanB
  exact Br.d (fun h => by rw [if_pos h]) (fun h => by rw [if_neg h])
theorem refmake_ev {lo hi : Nat} (hl : lo < 18446744073709551616) (hh : hi < 18446744073709551616) : Ev_ref02_Make lo hi (makeI lo hi) := by
  refine walk_ref02_Make ?_
  unfold W_ref02_Make
  refine Call.mk (zero_ev02 hl) (Call.mk (zero_ev02 hh) (Call.mk (refright_ev' ⟨cleanB_lt hl, cleanB_lt hh⟩) ?_))
  unfold makeI
  cases hr : rightB ⟨cleanB lo, cleanB hi⟩ with
  | true => exact Br.f rfl (by rw [if_pos rfl])
  | false => exact Br.t rfl (Call.mk refempty_ev (by rw [if_neg (by decide)]))
/-! ### Sums and products -/
theorem RIp.lo {x : GIval} (h : okI x) (r : RIp x) : NumB x.Lo := ⟨h.1, r.1, r.2.2.2.2.2.1⟩
theorem RIp.hi {x : GIval} (h : okI x) (r : RIp x) : NumB x.Hi := ⟨h.2, r.2.1, r.2.2.2.2.2.2⟩
theorem apart_hi {a b : Nat} (ha : NumB a) (hb : NumB b) (la : -9218868437227405312 < fI a) (lb : -9218868437227405312 < fI b) : Apart a b := by
  unfold Apart
  by_cases fa : isF a
  · exact .inl fa
  · by_cases fb : isF b
    · exact .inr (.inl fb)
    · refine .inr (.inr (fI_inj ha.z hb.z ?_))
      have h1 := ha.n; have h2 := hb.n
      unfold isF at fa fb
      unfold isN at h1 h2
      omega
theorem Loop2.two {α : Type} {a0 a1 a2 : α} {B : α → Int → (α → Int → Prop) → Prop} (h0 : ∀ k : α → Int → Prop, k a1 1 → B a0 0 k) (h1 : ∀ k : α → Int → Prop, k a2 2 → B a1 1 k)
    (h2 : ∀ k : α → Int → Prop, B a2 2 k) : Loop2 a0 (0 : Int) B := by
  refine ⟨fun a i => (i = 0 ∧ a = a0) ∨ (i = 1 ∧ a = a1) ∨ (i = 2 ∧ a = a2), fun _ i => (2 - i).toNat, .inl ⟨rfl, rfl⟩, ?_⟩
  rintro a i (⟨rfl, rfl⟩ | ⟨rfl, rfl⟩ | ⟨rfl, rfl⟩)
  · exact h0 _ ⟨.inr (.inl ⟨rfl, rfl⟩), by show (2 - (1 : Int)).toNat < (2 - (0 : Int)).toNat; decide⟩
  · exact h1 _ ⟨.inr (.inr ⟨rfl, rfl⟩), by show (2 - (2 : Int)).toNat < (2 - (1 : Int)).toNat; decide⟩
  · exact h2 _
end Go.Sim.Ytlglkgineclggaa
