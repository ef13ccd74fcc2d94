/- What is proved: what ival's functions and the reference's make of any intervals, infinite ends, empty ones and wrong ones too: the same. -/
import Derived.Test.YtlkpbnhinnhlfaaGreatZLFFltZ3

namespace Go.Sim.YtlkpbnhinnhlfaaGreat
open Go.RowKit Go.Proofs Go.Proofs.Tryz
set_option exponentiation.threshold 5000
/-- The words of the infinite ends. -/
def infB (s : Bool) : Nat := if s = true then 18442240474082181120 else 9218868437227405312
def EMP : GIval := ⟨9218868437227405312, 18442240474082181120⟩
theorem NumB.inf (s : Bool) : NumB (infB s) := by cases s <;> exact ⟨by decide, by decide, by decide⟩
theorem fI_infB (s : Bool) : fI (infB s) = if s = true then -9218868437227405312 else 9218868437227405312 := by cases s <;> rfl
theorem inf_cases {a : Nat} (h : NumB a) (hf : ¬ isF a) : ∃ s, a = infB s := by
  have hn := h.n
  unfold isN at hn
  unfold isF at hf
  by_cases h0 : fI a ≤ 0
  · exact ⟨true, fI_inj h.z (NumB.inf true).z (by rw [fI_infB]; simp; omega)⟩
  · exact ⟨false, fI_inj h.z (NumB.inf false).z (by rw [fI_infB]; simp; omega)⟩
theorem negB_inf (s : Bool) : negB (infB s) = s := by cases s <;> rfl
theorem read_inf (s : Bool) : Ieee.double.read (infB s) = .infinity s := by cases s <;> rfl
theorem write_inf (s : Bool) : Ieee.double.write (.infinity s) = infB s := by cases s <;> rfl
/-- The exact sum's word, and the exact product's; of infinite ones too. -/
def addX (a b : Nat) (dir : Int) : Nat := if isF a then (if isF b then addB a b dir else b) else a
def mulX (a b : Nat) (dir : Int) : Nat := if rungB a = 0 ∨ rungB b = 0 then 0 else if isF a ∧ isF b then mulB a b dir else infB (negB a != negB b)
theorem NumB.zero : NumB 0 := ⟨by decide, by decide, by decide⟩
theorem NumB.add {a b : Nat} (ha : NumB a) (hb : NumB b) (dir : Int) : NumB (addX a b dir) := by
  unfold addX
  split
  · split
    · rw [addB_rd]; exact rd_num _ _ _
    · exact hb
  · exact ha
theorem NumB.mul (a b : Nat) (dir : Int) : NumB (mulX a b dir) := by
  unfold mulX
  split
  · exact NumB.zero
  · split
    · rw [mulB_rd]; exact rd_num _ _ _
    · exact NumB.inf _
theorem fadd_inf {s : Bool} {b : Nat} (hb : b < 18446744073709551616) (fb : isF b) : farith .add .f64 (infB s) b = some (infB s) ∧ farith .add .f64 b (infB s) = some (infB s) := by
  obtain ⟨m, i, e, _⟩ := read_num hb fb
  constructor
  · show Ieee.double.add _ _ = _
    unfold Ieee.Format.add
    rw [e, read_inf]
    simp only [Ieee.Datum.sum, Option.map_some, write_inf]
  · show Ieee.double.add _ _ = _
    unfold Ieee.Format.add
    rw [e, read_inf]
    simp only [Ieee.Datum.sum, Option.map_some, write_inf]
theorem fadd_infs (s : Bool) : farith .add .f64 (infB s) (infB s) = some (infB s) := by
  show Ieee.double.add _ _ = _
  unfold Ieee.Format.add
  rw [read_inf]
  simp only [Ieee.Datum.sum, if_true, Option.map_some, write_inf]
theorem read_nz {b : Nat} (hb : b < 18446744073709551616) (fb : isF b) (h0 : rungB b ≠ 0) : ∃ m i, Ieee.double.read b = .number (negB b) m i ∧ m ≠ 0 := by
  obtain ⟨m, i, e, _, _, v⟩ := read_num hb fb
  refine ⟨m, i, e, fun h => ?_⟩
  subst h
  rw [Nat.zero_mul] at v
  have := fv_lt (show 0 < rungB b by omega)
  omega
theorem fmul_inf {a b : Nat} (ha : NumB a) (hb : NumB b) (za : rungB a ≠ 0) (zb : rungB b ≠ 0) (hf : ¬ (isF a ∧ isF b)) : farith .mul .f64 a b = some (infB (negB a != negB b)) := by
  have hx : ∀ s t : Bool, (s ^^ t) = (s != t) := by intro s t; cases s <;> cases t <;> rfl
  show Ieee.double.mul _ _ = _
  unfold Ieee.Format.mul
  by_cases fa : isF a
  · have fb : ¬ isF b := fun h => hf ⟨fa, h⟩
    obtain ⟨t, rfl⟩ := inf_cases hb fb
    obtain ⟨m, i, e, hm⟩ := read_nz ha.l fa za
    rw [e, read_inf]
    simp only [Ieee.Datum.product, if_neg hm, Option.map_some, write_inf, negB_inf, hx]
    cases t <;> cases negB a <;> rfl
  · obtain ⟨s, rfl⟩ := inf_cases ha fa
    by_cases fb : isF b
    · obtain ⟨m, i, e, hm⟩ := read_nz hb.l fb zb
      rw [e, read_inf]
      simp only [Ieee.Datum.product, if_neg hm, Option.map_some, write_inf, negB_inf, hx]
    · obtain ⟨t, rfl⟩ := inf_cases hb fb
      rw [read_inf, read_inf]
      simp only [Ieee.Datum.product, Option.map_some, write_inf, negB_inf, hx]
/-- Not two infinite ends of unlike signs. -/
def Apart (a b : Nat) : Prop := isF a ∨ isF b ∨ a = b
theorem add_evX {a b : Nat} (dir : Int) (ha : NumB a) (hb : NumB b) (h : Apart a b) : Ev_ulp_Add a b dir (addX a b dir) := by
  by_cases fa : isF a
  · by_cases fb : isF b
    · unfold addX; rw [if_pos fa, if_pos fb]; exact add_ev dir ha.l hb.l fa fb
    · unfold addX; rw [if_pos fa, if_neg fb]
      obtain ⟨t, rfl⟩ := inf_cases hb fb
      refine walk_ulp_Add ?_
      unfold W_ulp_Add
      exact Call.mk (both_ev ha.l hb.l) (Br.t (by simp [fa, fb]) ⟨_, (fadd_inf ha.l fa).2, rfl⟩)
  · unfold addX; rw [if_neg fa]
    obtain ⟨s, rfl⟩ := inf_cases ha fa
    refine walk_ulp_Add ?_
    unfold W_ulp_Add
    refine Call.mk (both_ev ha.l hb.l) (Br.t (by simp [fa]) ?_)
    by_cases fb : isF b
    · exact ⟨_, (fadd_inf hb.l fb).1, rfl⟩
    · rcases h with h | h | h
      · exact absurd h fa
      · exact absurd h fb
      · subst h; exact ⟨_, fadd_infs s, rfl⟩
theorem mul_evX {a b : Nat} (dir : Int) (ha : NumB a) (hb : NumB b) : Ev_ulp_Mul a b dir (mulX a b dir) := by
  by_cases hf : isF a ∧ isF b
  · have := mul_ev dir ha.l hb.l hf.1 hf.2
    unfold mulX
    by_cases hz : rungB a = 0 ∨ rungB b = 0
    · rw [if_pos hz]
      have fz : ∀ {x : Nat}, rungB x = 0 → fV (fI x) = 0 := by
        intro x h; rw [fV_fI, h, fv_zero]; unfold Ieee.signed; simp
      have h2 : 0 < 2 ^ 1074 := Nat.two_pow_pos 1074
      have e : mulB a b dir = 0 := by
        unfold mulB
        rw [show fV (fI a) * fV (fI b) = 0 from by rcases hz with h | h <;> rw [fz h] <;> simp, Int.natAbs_zero, rnd_zero h2]
      rwa [e] at this
    · rw [if_neg hz, if_pos hf]; exact this
  · unfold mulX
    refine walk_ulp_Mul ?_
    unfold W_ulp_Mul
    refine Call.mk (both_ev ha.l hb.l) ⟨fun x => x = false, Call.mk (isNaN_ev ha.l) (Br.f (by simp [ha.n]) (Call.mk (isNaN_ev hb.l) (by simp [hb.n]))), fun x hx => ?_⟩
    subst hx
    refine Br.f rfl ?_
    rw [eq_zero ha.l, eq_zero hb.l]
    refine Br.d (fun h => by rw [if_pos (.inl h)]) (fun ha0 => Br.d (fun h => by rw [if_pos (.inr h)]) (fun hb0 => Br.t ?_ ⟨_, fmul_inf ha hb ha0 hb0 hf, by rw [if_neg (fun h => h.elim ha0 hb0), if_neg hf]⟩))
    by_cases fa : isF a
    · have fb : ¬ isF b := fun h => hf ⟨fa, h⟩
      simp [fa, fb]
    · simp [fa]
theorem refadd_evX {a b : Nat} (dir : Int) (ha : NumB a) (hb : NumB b) (h : Apart a b) : Ev_ref01_Add a b dir (addX a b dir) := by
  refine walk_ref01_Add ?_
  unfold W_ref01_Add
  refine ⟨fun x => x = false, Call.mk (isnum_ev ha.l) (Br.f (by simp [ha.n]) (Call.mk (isnum_ev hb.l) (by simp [hb.n]))), fun x hx => ?_⟩
  subst hx
  refine Br.f rfl ⟨fun x => x = decide (isF a ∧ isF b), Call.mk (finite_ev ha.l) (Br.d (fun fa => Call.mk (finite_ev hb.l) ?_) (fun fa => ?_)), fun x hx => ?_⟩
  · show decide _ = decide _; rw [decide_eq_decide]; exact ⟨fun h => ⟨fa, h⟩, fun h => h.2⟩
  · show false = decide _; symm; rw [decide_eq_false_iff_not]; exact fun h => fa h.1
  subst hx
  unfold addX
  refine Br.d (fun hf => ?_) (fun hf => Call.mk (finite_ev ha.l) (Br.d (fun fa => ?_) (fun fa => ?_)))
  · rw [if_pos hf.1, if_pos hf.2]
    obtain ⟨x, y, z, k1, k2, k3, k4⟩ := refsum_ev dir ha.l hb.l hf.1 hf.2
    exact Call.mk k1 (Call.mk k2 (Call.mk k3 (Call.mk k4 rfl)))
  · rw [if_pos fa, if_neg (fun fb => hf ⟨fa, fb⟩)]
  · rw [if_neg fa, fmt64, order_eqv ha.l hb.l]
    refine Br.d (fun e => (fI_inj ha.z hb.z e.2.2).symm) (fun e => Call.mk (finite_ev hb.l) (Br.d (fun fb => rfl) (fun fb => ?_)))
    rcases h with h | h | h
    · exact absurd h fa
    · exact absurd h fb
    · subst h; exact absurd ⟨ha.n, ha.n, rfl⟩ e
theorem refinf_ev (s : Bool) : Ev_ref01_inf s (infB s) := by
  refine walk_ref01_inf ?_
  unfold W_ref01_inf
  cases s
  · exact Br.f rfl (Call.mk (at_ev (by decide) (by decide)) rfl)
  · exact Br.t rfl (Call.mk (at_ev (by decide) (by decide)) rfl)
theorem neg_lt {a : Nat} (ha : NumB a) (h0 : rungB a ≠ 0) : (FloatKind.f64.format.order a 0 == some .lt) = negB a := by
  rw [lt_zero ha.l]
  have := fI_eq a
  cases hb : negB a with
  | true => rw [hb, if_pos rfl] at this; rw [decide_eq_true_iff]; exact ⟨ha.n, by omega⟩
  | false => rw [hb, if_neg (by decide)] at this; rw [decide_eq_false_iff_not]; exact fun h => by omega
theorem refmul_evX {a b : Nat} (dir : Int) (ha : NumB a) (hb : NumB b) : Ev_ref01_Mul a b dir (mulX a b dir) := by
  refine walk_ref01_Mul ?_
  unfold W_ref01_Mul
  refine ⟨fun x => x = false, Call.mk (isnum_ev ha.l) (Br.f (by simp [ha.n]) (Call.mk (isnum_ev hb.l) (by simp [hb.n]))), fun x hx => ?_⟩
  subst hx
  refine Br.f rfl ?_
  rw [eq_zero ha.l, eq_zero hb.l]
  unfold mulX
  refine Br.d (fun h => by rw [if_pos (.inl h)]) (fun ha0 => Br.d (fun h => by rw [if_pos (.inr h)]) (fun hb0 => ?_))
  rw [if_neg (fun h => h.elim ha0 hb0)]
  refine ⟨fun x => x = !decide (isF a ∧ isF b), Call.mk (finite_ev ha.l) ?_, fun x hx => ?_⟩
  · by_cases fa : isF a
    · exact Br.f (by simp [fa]) (Call.mk (finite_ev hb.l) (by simp [fa]))
    · exact Br.t (by simp [fa]) (by simp [fa])
  subst hx
  by_cases hf : isF a ∧ isF b
  · rw [if_pos hf]
    obtain ⟨x, y, z, k1, k2, k3, k4⟩ := refprod_ev dir ha.l hb.l hf.1 hf.2
    exact Br.f (by simp [hf]) (Call.mk k1 (Call.mk k2 (Call.mk k3 (Call.mk k4 rfl))))
  · rw [if_neg hf, neg_lt ha ha0, neg_lt hb hb0]
    exact Br.t (by rw [decide_eq_false hf]; rfl) (Call.mk (refinf_ev _) rfl)
/-! ### Which intervals may be -/
def okI (x : GIval) : Prop := x.Lo < 18446744073709551616 ∧ x.Hi < 18446744073709551616
def emptyP (x : GIval) : Prop := fI x.Lo = 9218868437227405312 ∧ fI x.Hi = -9218868437227405312
/-- It may be, and holds something. -/
def RIp (x : GIval) : Prop := isN x.Lo ∧ isN x.Hi ∧ fI x.Lo ≤ fI x.Hi ∧ fI x.Lo < 9218868437227405312 ∧ -9218868437227405312 < fI x.Hi ∧ x.Lo ≠ 9223372036854775808 ∧ x.Hi ≠ 9223372036854775808
instance (b : Nat) : Decidable (isN b) := by unfold isN; infer_instance
instance (x : GIval) : Decidable (emptyP x) := by unfold emptyP; infer_instance
instance (x : GIval) : Decidable (RIp x) := by unfold RIp; infer_instance
def rightB (x : GIval) : Bool := decide (emptyP x ∨ RIp x)
def noneB (x : GIval) : Bool := !decide (RIp x)
theorem eq_inf {v : Nat} (hv : v < 18446744073709551616) : (FloatKind.f64.format.order v 9218868437227405312 == some .eq) = decide (fI v = 9218868437227405312) := by
  rw [fmt64, order_eqv hv (by decide), fI_inf.1, decide_eq_decide]
  exact ⟨fun h => h.2.2, fun h => ⟨by unfold isN; omega, isN_inf.1, h⟩⟩
theorem eq_ninf {v : Nat} (hv : v < 18446744073709551616) : (FloatKind.f64.format.order v 18442240474082181120 == some .eq) = decide (fI v = -9218868437227405312) := by
  rw [fmt64, order_eqv hv (by decide), fI_inf.2, decide_eq_decide]
  exact ⟨fun h => h.2.2, fun h => ⟨by unfold isN; omega, isN_inf.2, h⟩⟩
theorem le_b {a b : Nat} (ha : a < 18446744073709551616) (hb : b < 18446744073709551616) : ((FloatKind.f64.format.order a b == some .lt) || (FloatKind.f64.format.order a b == some .eq)) = decide (isN a ∧ isN b ∧ fI a ≤ fI b) := by
  rw [fmt64, order_lt ha hb, order_eqv ha hb, Bool.eq_iff_iff, Bool.or_eq_true, decide_eq_true_iff, decide_eq_true_iff, decide_eq_true_iff]
  constructor
  · rintro (⟨h1, h2, h⟩ | ⟨h1, h2, h⟩) <;> exact ⟨h1, h2, by omega⟩
  · rintro ⟨h1, h2, h⟩
    by_cases e : fI a = fI b
    · exact .inr ⟨h1, h2, e⟩
    · exact .inl ⟨h1, h2, by omega⟩
theorem ge_b {a b : Nat} (ha : a < 18446744073709551616) (hb : b < 18446744073709551616) : ((FloatKind.f64.format.order a b == some .gt) || (FloatKind.f64.format.order a b == some .eq)) = decide (isN a ∧ isN b ∧ fI b ≤ fI a) := by
  rw [fmt64, order_gt ha hb, order_eqv ha hb, Bool.eq_iff_iff, Bool.or_eq_true, decide_eq_true_iff, decide_eq_true_iff, decide_eq_true_iff]
  constructor
  · rintro (⟨h1, h2, h⟩ | ⟨h1, h2, h⟩) <;> exact ⟨h1, h2, by omega⟩
  · rintro ⟨h1, h2, h⟩
    by_cases e : fI a = fI b
    · exact .inr ⟨h1, h2, e⟩
    · exact .inl ⟨h1, h2, by omega⟩
theorem beq_emp {x : GIval} (h : okI x) : GIval.beq x ⟨9218868437227405312, 18442240474082181120⟩ = decide (emptyP x) := by
  unfold GIval.beq
  simp only [Bool.and_true]
  rw [eq_inf h.1, eq_ninf h.2]
  rw [Bool.eq_iff_iff, Bool.and_eq_true, decide_eq_true_iff, decide_eq_true_iff, decide_eq_true_iff]
  exact Iff.rfl
theorem plus_evX {v : Nat} (hv : v < 18446744073709551616) : Ev_ival_plus v (decide (v ≠ 9223372036854775808)) := by
  by_cases h : v = 9223372036854775808
  · subst h
    refine walk_ival_plus ?_
    unfold W_ival_plus
    refine Br.f (by decide) (Call.mk (x := true) (walk_math_Signbit ?_) rfl)
    unfold W_math_Signbit
    exact Call.mk (float64bits_ev _) (Let.as (-9223372036854775808 : Int) (by decide) rfl)
  · rw [decide_eq_true h]; exact iplus_ev hv h
theorem right_evX {x : GIval} (h : okI x) : Ev_ival_Right x (rightB x) := by
  refine walk_ival_Right ?_
  unfold W_ival_Right
  refine Call.mk empty_ev ?_
  rw [beq_emp h, le_b h.1 h.2]
  have no : ∀ {p : Prop}, ¬ emptyP x → ¬ RIp x → false = rightB x := fun h1 h2 => by
    symm; unfold rightB; rw [decide_eq_false_iff_not]; exact fun h => h.elim h1 h2
  refine Br.d (fun he => ?_) (fun he => Br.d (fun h1 => ?_) (fun h1 => no (p := True) he (fun hr => h1 ⟨hr.1, hr.2.1, hr.2.2.1⟩)))
  · show true = rightB x; symm; unfold rightB; rw [decide_eq_true_iff]; exact .inl he
  · rw [fmt64]
    refine Call.mk inf1_ev ?_
    rw [order_lt h.1 (by decide), fI_inf.1]
    refine Br.d (fun h2 => Call.mk infm_ev ?_) (fun h2 => no (p := True) he (fun hr => h2 ⟨hr.1, isN_inf.1, hr.2.2.2.1⟩))
    rw [order_gt h.2 (by decide), fI_inf.2]
    refine Br.d (fun h3 => Call.mk (plus_evX h.1) (Br.d (fun h4 => Call.mk (plus_evX h.2) ?_) (fun h4 => no (p := True) he (fun hr => h4 hr.2.2.2.2.2.1)))) (fun h3 => no (p := True) he (fun hr => h3 ⟨hr.2.1, isN_inf.2, hr.2.2.2.2.1⟩))
    show decide _ = rightB x
    unfold rightB
    rw [decide_eq_decide]
    exact ⟨fun h5 => .inr ⟨h1.1, h1.2.1, h1.2.2, h2.2.2, h3.2.2, h4, h5⟩, fun h5 => h5.elim (fun h => absurd h he) (fun h => h.2.2.2.2.2.2)⟩
theorem not_both {x : GIval} (h : RIp x) : ¬ emptyP x := fun e => by
  have h1 := h.2.2.2.1; have h2 := e.1; omega
theorem none_evX {l : List GIval} (hl : ∀ x ∈ l, okI x) (hn : l.length ≤ 1000) : Ev_ival_none l (l.any noneB) := by
  refine walk_ival_none ?_
  unfold W_ival_none
  refine Loop1.up l.length (fun i => ∀ j, j < i → ∀ x, l[j]? = some x → RIp x) (fun j hj => by omega) ?_
  intro i k hi hP hk
  refine Br.d (fun h => At.nat (by omega) fun x hx => ?_) (fun hlt => ?_)
  · have hx1 := hl x (List.mem_of_getElem? hx)
    have hany : ¬ RIp x → true = l.any noneB := fun hr => by
      symm; rw [List.any_eq_true]; exact ⟨x, List.mem_of_getElem? hx, by unfold noneB; rw [decide_eq_false hr]; rfl⟩
    refine Call.mk (right_evX hx1) ?_
    by_cases hr : RIp x
    · refine Br.f (by unfold rightB; rw [decide_eq_true (.inr hr)]; rfl) (Call.mk empty_ev (Br.f ?_ (Let.as _ (wi1 (by omega)) (hk (by omega) fun j hj y hy => ?_))))
      · rw [beq_emp hx1, decide_eq_false (not_both hr)]
      · by_cases hji : j = i
        · subst hji; rw [hx] at hy; cases hy; exact hr
        · exact hP j (by omega) y hy
    · by_cases he : emptyP x
      · exact Br.f (by unfold rightB; rw [decide_eq_true (.inl he)]; rfl) (Call.mk empty_ev (Br.t (by rw [beq_emp hx1, decide_eq_true he]) (hany hr)))
      · exact Br.t (by unfold rightB; rw [decide_eq_false (fun h => h.elim he hr)]; rfl) (hany hr)
  · show false = l.any noneB
    symm; rw [List.any_eq_false]
    intro x hx
    obtain ⟨j, hj, e⟩ := List.getElem_of_mem hx
    have := hP j (by omega) x (by rw [List.getElem?_eq_getElem hj, e])
    unfold noneB; rw [decide_eq_true this]; decide
theorem refinf1_ev : Ev_ref02_inf 1 9218868437227405312 := by
  refine walk_ref02_inf ?_
  unfold W_ref02_inf
  exact Call.mk inf1_ev rfl
theorem refinfm_ev : Ev_ref02_inf (-1) 18442240474082181120 := by
  refine walk_ref02_inf ?_
  unfold W_ref02_inf
  exact Call.mk infm_ev rfl
theorem refempty_ev : Ev_ref02_Empty EMP := by
  refine walk_ref02_Empty ?_
  unfold W_ref02_Empty
  exact Call.mk refinf1_ev (Call.mk refinfm_ev rfl)
theorem minus0_ev {v : Nat} (hv : v < 18446744073709551616) : Ev_ref02_minus0 v (decide (v = 9223372036854775808)) := by
  refine walk_ref02_minus0 ?_
  unfold W_ref02_minus0
  rw [eq_zero hv]
  refine Br.d (fun h => Call.mk (float64bits_ev v) ?_) (fun h => ?_)
  · unfold rungB at h
    by_cases h0 : v = 0
    · subst h0; rfl
    · have : v = 9223372036854775808 := by split at h <;> omega
      subst this; rfl
  · show false = _
    symm; rw [decide_eq_false_iff_not]; intro e; subst e; exact h rfl
theorem refright_ev' {x : GIval} (h : okI x) : Ev_ref02_Right x (rightB x) := by
  refine walk_ref02_Right ?_
  unfold W_ref02_Right
  have no : ¬ emptyP x → ¬ RIp x → false = rightB x := fun h1 h2 => by
    symm; unfold rightB; rw [decide_eq_false_iff_not]; exact fun h => h.elim h1 h2
  refine ⟨fun b => b = decide (emptyP x), Call.mk refinf1_ev ?_, fun b hb => ?_⟩
  · rw [eq_inf h.1]
    refine Br.d (fun h1 => Call.mk refinfm_ev ?_) (fun h1 => ?_)
    · rw [eq_ninf h.2]; show decide _ = decide _; rw [decide_eq_decide]; exact ⟨fun h2 => ⟨h1, h2⟩, fun h2 => h2.2⟩
    · show false = decide _; symm; rw [decide_eq_false_iff_not]; exact fun h2 => h1 h2.1
  subst hb
  rw [le_b h.1 h.2]
  refine Br.d (fun he => ?_) (fun he => Br.d (fun h1 => Call.mk refinf1_ev ?_) (fun h1 => no he (fun hr => h1 ⟨hr.1, hr.2.1, hr.2.2.1⟩)))
  · show true = rightB x; symm; unfold rightB; rw [decide_eq_true_iff]; exact .inl he
  · rw [bne, eq_inf h.1]
    by_cases h2 : fI x.Lo = 9218868437227405312
    · exact Br.f (by simp [h2]) (no he (fun hr => by have := hr.2.2.2.1; omega))
    · refine Br.t (by simp [h2]) (Call.mk refinfm_ev ?_)
      rw [bne, eq_ninf h.2]
      by_cases h3 : fI x.Hi = -9218868437227405312
      · exact Br.f (by simp [h3]) (no he (fun hr => by have := hr.2.2.2.2.1; omega))
      · refine Br.t (by simp [h3]) (Call.mk (minus0_ev h.1) ?_)
        by_cases h4 : x.Lo = 9223372036854775808
        · exact Br.f (by simp [h4]) (no he (fun hr => hr.2.2.2.2.2.1 h4))
        · refine Br.t (by simp [h4]) (Call.mk (minus0_ev h.2) ?_)
          have n1 := h1.1; have n2 := h1.2.1
          unfold isN at n1 n2
          unfold rightB
          rw [← decide_not]
          show decide _ = decide _
          rw [decide_eq_decide]
          exact ⟨fun h5 => .inr ⟨h1.1, h1.2.1, h1.2.2, by omega, by omega, h4, h5⟩, fun h5 => h5.elim (fun h => absurd h he) (fun h => h.2.2.2.2.2.2)⟩
theorem refnone_ev {x : GIval} (h : okI x) : Ev_ref02_None x (noneB x) := by
  refine walk_ref02_None ?_
  unfold W_ref02_None
  refine Call.mk (refright_ev' h) ?_
  unfold noneB
  by_cases hr : RIp x
  · refine Br.f (by unfold rightB; rw [decide_eq_true (.inr hr)]; rfl) ?_
    rw [decide_eq_true hr, fmt64, order_gt h.1 h.2]
    show decide _ = !true
    rw [Bool.not_true, decide_eq_false_iff_not]
    exact fun k => by have := hr.2.2.1; have := k.2.2; omega
  · rw [decide_eq_false hr]
    by_cases he : emptyP x
    · refine Br.f (by unfold rightB; rw [decide_eq_true (.inl he)]; rfl) ?_
      rw [fmt64, order_gt h.1 h.2]
      show decide _ = !false
      rw [Bool.not_false, decide_eq_true_iff]
      have h1 := he.1; have h2 := he.2
      exact ⟨by unfold isN; omega, by unfold isN; omega, by omega⟩
    · exact Br.t (by unfold rightB; rw [decide_eq_false (fun h => h.elim he hr)]; rfl) rfl
/-! ### What is made of two ends -/
def cleanB (b : Nat) : Nat := if rungB b = 0 then 0 else b
def makeI (lo hi : Nat) : GIval := if rightB ⟨cleanB lo, cleanB hi⟩ = true then ⟨cleanB lo, cleanB hi⟩ else EMP
theorem cleanB_lt {b : Nat} (hb : b < 18446744073709551616) : cleanB b < 18446744073709551616 := by unfold cleanB; split <;> omega
theorem cleanB_num {b : Nat} (hb : NumB b) : cleanB b = b := by
  unfold cleanB
  split
  · rename_i h
    have := hb.z
    unfold rungB at h
    split at h <;> omega
  · rfl
theorem ok_emp : okI EMP := ⟨by decide, by decide⟩
theorem ok_make {lo hi : Nat} (hl : lo < 18446744073709551616) (hh : hi < 18446744073709551616) : okI (makeI lo hi) := by
  unfold makeI
  split
  · exact ⟨cleanB_lt hl, cleanB_lt hh⟩
  · exact ok_emp
theorem add_zeroX {b : Nat} (hb : b < 18446744073709551616) (hn : isN b) : farith .add .f64 b 0 = some (cleanB b) := by
  by_cases hz : b = 9223372036854775808
  · subst hz; rfl
  · by_cases hf : isF b
    · rw [cleanB_num ⟨hb, hn, hz⟩]; exact add_zero hb hf hz
    · obtain ⟨s, rfl⟩ := inf_cases ⟨hb, hn, hz⟩ hf
      rw [cleanB_num (NumB.inf s)]
      exact (fadd_inf (by decide) (by decide)).1
theorem make_evX {lo hi : Nat} (hl : lo < 18446744073709551616) (hh : hi < 18446744073709551616) (nl : isN lo) (nh : isN hi) : Ev_ival_Make lo hi (makeI lo hi) := by
  refine walk_ival_Make ?_
  unfold W_ival_Make
  refine ⟨_, add_zeroX hl nl, _, add_zeroX hh nh, Call.mk (right_evX ⟨cleanB_lt hl, cleanB_lt hh⟩) ?_⟩
  unfold makeI
  cases hr : rightB ⟨cleanB lo, cleanB hi⟩ with
  | true => exact Br.f rfl (by rw [if_pos rfl])
  | false => exact Br.t rfl (Call.mk empty_ev (by rw [if_neg (by decide)]; rfl))
theorem zero_ev02 {v : Nat} (hv : v < 18446744073709551616) : Ev_ref02_zero v (cleanB v) := by
  refine walk_ref02_zero ?_
  unfold W_ref02_zero
  rw [eq_zero hv]
  unfold cleanB
  exact Br.d (fun h => by rw [if_pos h]) (fun h => by rw [if_neg h])
theorem refmake_ev {lo hi : Nat} (hl : lo < 18446744073709551616) (hh : hi < 18446744073709551616) : Ev_ref02_Make lo hi (makeI lo hi) := by
  refine walk_ref02_Make ?_
  unfold W_ref02_Make
  refine Call.mk (zero_ev02 hl) (Call.mk (zero_ev02 hh) (Call.mk (refright_ev' ⟨cleanB_lt hl, cleanB_lt hh⟩) ?_))
  unfold makeI
  cases hr : rightB ⟨cleanB lo, cleanB hi⟩ with
  | true => exact Br.f rfl (by rw [if_pos rfl])
  | false => exact Br.t rfl (Call.mk refempty_ev (by rw [if_neg (by decide)]))
/-- Ends, drawn in to finite ones where they must. -/
def endsI (lo hi : Nat) : GIval := makeI (fminB lo 9218868437227405311) (fmaxB hi 18442240474082181119)
theorem num_max : NumB 9218868437227405311 := ⟨by decide, by decide, by decide⟩
theorem num_min : NumB 18442240474082181119 := ⟨by decide, by decide, by decide⟩
theorem ends_evX {lo hi : Nat} (hl : NumB lo) (hh : NumB hi) : Ev_ival_ends lo hi (endsI lo hi) := by
  refine walk_ival_ends ?_
  unfold W_ival_ends
  have m1 := (hl.min num_max).1
  have m2 := (hh.max num_min).1
  exact ⟨order_ne hl.l num_max.l hl.n num_max.n, Let.as _ rfl ⟨order_ne hh.l num_min.l hh.n num_min.n, Let.as _ rfl (Call.mk (make_evX m1.l m2.l m1.n m2.n) rfl)⟩⟩
theorem refends_ev {lo hi : Nat} (hl : NumB lo) (hh : NumB hi) : Ev_ref02_ends lo hi (endsI lo hi) := by
  refine walk_ref02_ends ?_
  unfold W_ref02_ends
  have m1 := hl.min num_max
  have m2 := hh.max num_min
  refine ⟨fun x => x = fminB lo 9218868437227405311, ?_, fun x hx => ?_⟩
  · rw [fmt64, order_gt hl.l num_max.l]
    refine Br.d (fun h => ?_) (fun h => ?_)
    · exact fI_inj num_max.z m1.1.z (by rw [m1.2]; have := h.2.2; omega)
    · exact fI_inj hl.z m1.1.z (by rw [m1.2]; have : ¬ fI 9218868437227405311 < fI lo := fun k => h ⟨hl.n, num_max.n, k⟩; omega)
  · subst hx
    refine ⟨fun x => x = fmaxB hi 18442240474082181119, ?_, fun x hx => ?_⟩
    · rw [fmt64, order_lt hh.l num_min.l]
      refine Br.d (fun h => ?_) (fun h => ?_)
      · exact fI_inj num_min.z m2.1.z (by rw [m2.2]; have := h.2.2; omega)
      · exact fI_inj hh.z m2.1.z (by rw [m2.2]; have : ¬ fI hi < fI 18442240474082181119 := fun k => h ⟨hh.n, num_min.n, k⟩; omega)
    · subst hx
      exact Call.mk (refmake_ev m1.1.l m2.1.l) rfl
theorem ok_ends {lo hi : Nat} (hl : NumB lo) (hh : NumB hi) : okI (endsI lo hi) := ok_make (hl.min num_max).1.l (hh.max num_min).1.l
/-! ### Sums and products -/
theorem RIp.lo {x : GIval} (h : okI x) (r : RIp x) : NumB x.Lo := ⟨h.1, r.1, r.2.2.2.2.2.1⟩
theorem RIp.hi {x : GIval} (h : okI x) (r : RIp x) : NumB x.Hi := ⟨h.2, r.2.1, r.2.2.2.2.2.2⟩
def addI (x y : GIval) : GIval := if RIp x ∧ RIp y then endsI (addX x.Lo y.Lo (-1)) (addX x.Hi y.Hi 1) else EMP
theorem apart_lo {a b : Nat} (ha : NumB a) (hb : NumB b) (la : fI a < 9218868437227405312) (lb : fI b < 9218868437227405312) : Apart a b := by
  unfold Apart
  by_cases fa : isF a
  · exact .inl fa
  · by_cases fb : isF b
    · exact .inr (.inl fb)
    · refine .inr (.inr (fI_inj ha.z hb.z ?_))
      have h1 := ha.n; have h2 := hb.n
      unfold isF at fa fb
      unfold isN at h1 h2
      omega
theorem apart_hi {a b : Nat} (ha : NumB a) (hb : NumB b) (la : -9218868437227405312 < fI a) (lb : -9218868437227405312 < fI b) : Apart a b := by
  unfold Apart
  by_cases fa : isF a
  · exact .inl fa
  · by_cases fb : isF b
    · exact .inr (.inl fb)
    · refine .inr (.inr (fI_inj ha.z hb.z ?_))
      have h1 := ha.n; have h2 := hb.n
      unfold isF at fa fb
      unfold isN at h1 h2
      omega
theorem any2 (x y : GIval) : [x, y].any noneB = !decide (RIp x ∧ RIp y) := by
  simp only [List.any_cons, List.any_nil, Bool.or_false, noneB, Bool.decide_and, Bool.not_and]
theorem iadd_evX {x y : GIval} (hx : okI x) (hy : okI y) : Ev_ival_Add x y (addI x y) := by
  refine walk_ival_Add ?_
  unfold W_ival_Add
  refine Call.mk (none_evX (l := [x, y]) (fun z hz => by simp at hz; rcases hz with rfl | rfl <;> assumption) (by simp)) ?_
  rw [any2]
  unfold addI
  by_cases h : RIp x ∧ RIp y
  · rw [if_pos h]
    have lx := RIp.lo hx h.1; have ly := RIp.lo hy h.2; have ux := RIp.hi hx h.1; have uy := RIp.hi hy h.2
    exact Br.f (by simp [h]) (Call.mk (add_evX _ lx ly (apart_lo lx ly h.1.2.2.2.1 h.2.2.2.2.1)) (Call.mk (add_evX _ ux uy (apart_hi ux uy h.1.2.2.2.2.1 h.2.2.2.2.2.1)) (Call.mk (ends_evX (lx.add ly _) (ux.add uy _)) rfl)))
  · rw [if_neg h]
    exact Br.t (by rw [decide_eq_false h]; rfl) (Call.mk empty_ev rfl)
theorem refnone2 {x y : GIval} (hx : okI x) (hy : okI y) {k : Bool → Prop} (hk : k (!decide (RIp x ∧ RIp y))) : Join1 (fun j8 => Call (Ev_ref02_None x) fun x9 => Br x9 (j8 true) (Call (Ev_ref02_None y) fun x11 => j8 x11)) k := by
  refine ⟨fun b => b = !decide (RIp x ∧ RIp y), Call.mk (refnone_ev hx) ?_, fun b hb => by subst hb; exact hk⟩
  unfold noneB
  by_cases h : RIp x
  · exact Br.f (by simp [h]) (Call.mk (refnone_ev hy) (by unfold noneB; simp [h]))
  · exact Br.t (by simp [h]) (by simp [h])
theorem refadd_ev02 {x y : GIval} (hx : okI x) (hy : okI y) : Ev_ref02_Add x y (addI x y) := by
  refine walk_ref02_Add ?_
  unfold W_ref02_Add
  refine refnone2 hx hy ?_
  unfold addI
  by_cases h : RIp x ∧ RIp y
  · rw [if_pos h]
    have lx := RIp.lo hx h.1; have ly := RIp.lo hy h.2; have ux := RIp.hi hx h.1; have uy := RIp.hi hy h.2
    exact Br.f (by simp [h]) (Call.mk (refadd_evX _ lx ly (apart_lo lx ly h.1.2.2.2.1 h.2.2.2.2.1)) (Call.mk (refadd_evX _ ux uy (apart_hi ux uy h.1.2.2.2.2.1 h.2.2.2.2.2.1)) (Call.mk (refends_ev (lx.add ly _) (ux.add uy _)) rfl)))
  · rw [if_neg h]
    exact Br.t (by rw [decide_eq_false h]; rfl) (Call.mk refempty_ev rfl)
theorem ok_add {x y : GIval} (hx : okI x) (hy : okI y) : okI (addI x y) := by
  unfold addI
  split
  · rename_i h
    exact ok_ends ((RIp.lo hx h.1).add (RIp.lo hy h.2) _) ((RIp.hi hx h.1).add (RIp.hi hy h.2) _)
  · exact ok_emp
/-- The least of the corners, and the greatest. -/
def loM (x y : GIval) : Nat := fminB (fminB (fminB (fminB 9218868437227405312 (mulX x.Lo y.Lo (-1))) (mulX x.Lo y.Hi (-1))) (mulX x.Hi y.Lo (-1))) (mulX x.Hi y.Hi (-1))
def hiM (x y : GIval) : Nat := fmaxB (fmaxB (fmaxB (fmaxB 18442240474082181120 (mulX x.Lo y.Lo 1)) (mulX x.Lo y.Hi 1)) (mulX x.Hi y.Lo 1)) (mulX x.Hi y.Hi 1)
def mulI (x y : GIval) : GIval := if RIp x ∧ RIp y then endsI (loM x y) (hiM x y) else EMP
theorem num_i0 : NumB 9218868437227405312 := ⟨by decide, isN_inf.1, by decide⟩
theorem num_i1 : NumB 18442240474082181120 := ⟨by decide, isN_inf.2, by decide⟩
theorem num_loM (x y : GIval) : NumB (loM x y) := ((((num_i0.min (NumB.mul _ _ _)).1.min (NumB.mul _ _ _)).1.min (NumB.mul _ _ _)).1.min (NumB.mul _ _ _)).1
theorem num_hiM (x y : GIval) : NumB (hiM x y) := ((((num_i1.max (NumB.mul _ _ _)).1.max (NumB.mul _ _ _)).1.max (NumB.mul _ _ _)).1.max (NumB.mul _ _ _)).1
theorem at0 {u w : Nat} {K : Nat → Prop} (h : K u) : At [u, w] (0 : Int) K := At.nat (i := 0) (by simp) fun z hz => by simp at hz; subst hz; exact h
theorem at1 {u w : Nat} {K : Nat → Prop} (h : K w) : At [u, w] (1 : Int) K := At.nat (i := 1) (by simp) fun z hz => by simp at hz; subst hz; exact h
theorem imul_evX {x y : GIval} (hx : okI x) (hy : okI y) : Ev_ival_Mul x y (mulI x y) := by
  refine walk_ival_Mul ?_
  unfold W_ival_Mul
  refine Call.mk (none_evX (l := [x, y]) (fun z hz => by simp at hz; rcases hz with rfl | rfl <;> assumption) (by simp)) ?_
  rw [any2]
  unfold mulI
  by_cases h : RIp x ∧ RIp y
  · rw [if_pos h]
    have lx := RIp.lo hx h.1; have ly := RIp.lo hy h.2; have ux := RIp.hi hx h.1; have uy := RIp.hi hy h.2
    refine Br.f (by simp [h]) (Call.mk (walk_ival_corners ?_) rfl)
    unfold W_ival_corners
    refine Call.mk inf1_ev (Call.mk infm_ev ?_)
    have step : ∀ (a b lo hi : Nat) (i : Int), NumB a → NumB b → NumB lo → NumB hi → -1 ≤ i → i ≤ 5 → ∀ k : Nat → Nat → Int → Prop, k (fminB lo (mulX a b (-1))) (fmaxB hi (mulX a b 1)) (i + 1) →
        Call (fun x540 : Nat => FVal prog Fn_ulp_Mul [.v (.float .f64 a), .v (.float .f64 b), .v (.int .i64 (-1 : Int))] (.v (.float .f64 x540))) fun x540 =>
        Call (fun x542 : Nat => FVal prog Fn_ulp_Mul [.v (.float .f64 a), .v (.float .f64 b), .v (.int .i64 (1 : Int))] (.v (.float .f64 x542))) fun x542 =>
        Call (Ev_math_IsNaN x540) fun x544 =>
        Br (!x544) (
          FMn lo x540 fun x546 =>
          FMx hi x542 fun x547 =>
          Let (IntKind.i64.wrap (i + (1 : Int))) fun x548 =>
          k x546 x547 x548) (
          Let (IntKind.i64.wrap (i + (1 : Int))) fun x549 =>
          k lo hi x549) := by
      intro a b lo hi i na nb nlo nhi i1 i2 k hk
      have q1 := NumB.mul a b (-1)
      have q2 := NumB.mul a b 1
      refine Call.mk (call_ulp_Mul (mul_evX _ na nb)) (Call.mk (call_ulp_Mul (mul_evX _ na nb)) (Call.mk (isNaN_ev q1.l) (Br.t (by simp [q1.n]) ⟨order_ne nlo.l q1.l nlo.n q1.n, Let.as _ rfl ⟨order_ne nhi.l q2.l nhi.n q2.n, Let.as _ rfl (Let.as (i + 1) (wi (by omega) (by omega)) hk)⟩⟩)))
    have n1 := (num_i0.min (NumB.mul x.Lo y.Lo (-1))).1
    have m1 := (num_i1.max (NumB.mul x.Lo y.Lo 1)).1
    have n2 := (n1.min (NumB.mul x.Lo y.Hi (-1))).1
    have m2 := (m1.max (NumB.mul x.Lo y.Hi 1)).1
    have n3 := (n2.min (NumB.mul x.Hi y.Lo (-1))).1
    have m3 := (m2.max (NumB.mul x.Hi y.Lo 1)).1
    refine Loop3.two (a1 := (fminB (fminB 9218868437227405312 (mulX x.Lo y.Lo (-1))) (mulX x.Lo y.Hi (-1)))) (b1 := (fmaxB (fmaxB 18442240474082181120 (mulX x.Lo y.Lo 1)) (mulX x.Lo y.Hi 1))) (a2 := loM x y) (b2 := hiM x y) (fun k hk => ?_) (fun k hk => ?_) (fun k => ?_)
    · refine Br.dT (by simp) (at0 ?_)
      refine Loop3.two (a1 := (fminB 9218868437227405312 (mulX x.Lo y.Lo (-1)))) (b1 := (fmaxB 18442240474082181120 (mulX x.Lo y.Lo 1))) (a2 := (fminB (fminB 9218868437227405312 (mulX x.Lo y.Lo (-1))) (mulX x.Lo y.Hi (-1)))) (b2 := (fmaxB (fmaxB 18442240474082181120 (mulX x.Lo y.Lo 1)) (mulX x.Lo y.Hi 1))) (fun k2 hk2 => Br.dT (by simp) (at0 (step _ _ _ _ _ lx ly num_i0 num_i1 (by omega) (by omega) k2 hk2))) (fun k2 hk2 => Br.dT (by simp) (at1 (step _ _ _ _ _ lx uy n1 m1 (by omega) (by omega) k2 hk2))) (fun k2 => Br.dF (by simp) (Let.as 1 (wi (by omega) (by omega)) hk))
    · refine Br.dT (by simp) (at1 ?_)
      refine Loop3.two (a1 := (fminB (fminB (fminB 9218868437227405312 (mulX x.Lo y.Lo (-1))) (mulX x.Lo y.Hi (-1))) (mulX x.Hi y.Lo (-1)))) (b1 := (fmaxB (fmaxB (fmaxB 18442240474082181120 (mulX x.Lo y.Lo 1)) (mulX x.Lo y.Hi 1)) (mulX x.Hi y.Lo 1))) (a2 := loM x y) (b2 := hiM x y) (fun k2 hk2 => Br.dT (by simp) (at0 (step _ _ _ _ _ ux ly n2 m2 (by omega) (by omega) k2 hk2))) (fun k2 hk2 => Br.dT (by simp) (at1 (step _ _ _ _ _ ux uy n3 m3 (by omega) (by omega) k2 hk2))) (fun k2 => Br.dF (by simp) (Let.as 2 (wi (by omega) (by omega)) hk))
    · exact Br.dF (by simp) (Call.mk (ends_evX (num_loM x y) (num_hiM x y)) rfl)
  · rw [if_neg h]
    exact Br.t (by rw [decide_eq_false h]; rfl) (Call.mk empty_ev rfl)
theorem ok_mul {x y : GIval} : okI (mulI x y) := by
  unfold mulI
  split
  · exact ok_ends (num_loM x y) (num_hiM x y)
  · exact ok_emp
theorem wider_ev {lo hi l h : Nat} (n1 : NumB lo) (n2 : NumB hi) (n3 : NumB l) (n4 : NumB h) : Ev_ref02_wider ⟨lo, hi⟩ l h ⟨fminB lo l, fmaxB hi h⟩ := by
  refine walk_ref02_wider ?_
  unfold W_ref02_wider
  have m1 := n1.min n3
  have m2 := n2.max n4
  refine ⟨fun x => x = ⟨fminB lo l, hi⟩, ?_, fun x hx => ?_⟩
  · rw [fmt64, order_lt n3.l n1.l]
    refine Br.d (fun c => ?_) (fun c => ?_)
    · show GIval.mk l hi = _
      congr 1
      exact fI_inj n3.z m1.1.z (by rw [m1.2]; have := c.2.2; omega)
    · show GIval.mk lo hi = _
      have : ¬ fI l < fI lo := fun k => c ⟨n3.n, n1.n, k⟩
      congr 1
      exact fI_inj n1.z m1.1.z (by rw [m1.2]; omega)
  · subst hx
    rw [fmt64, order_gt n4.l n2.l]
    refine Br.d (fun c => ?_) (fun c => ?_)
    · show GIval.mk _ h = _
      congr 1
      exact fI_inj n4.z m2.1.z (by rw [m2.2]; have := c.2.2; omega)
    · show GIval.mk _ hi = _
      have : ¬ fI hi < fI h := fun k => c ⟨n4.n, n2.n, k⟩
      congr 1
      exact fI_inj n2.z m2.1.z (by rw [m2.2]; omega)
theorem Loop2.two {α : Type} {a0 a1 a2 : α} {B : α → Int → (α → Int → Prop) → Prop} (h0 : ∀ k : α → Int → Prop, k a1 1 → B a0 0 k) (h1 : ∀ k : α → Int → Prop, k a2 2 → B a1 1 k)
    (h2 : ∀ k : α → Int → Prop, B a2 2 k) : Loop2 a0 (0 : Int) B := by
  refine ⟨fun a i => (i = 0 ∧ a = a0) ∨ (i = 1 ∧ a = a1) ∨ (i = 2 ∧ a = a2), fun _ i => (2 - i).toNat, .inl ⟨rfl, rfl⟩, ?_⟩
  rintro a i (⟨rfl, rfl⟩ | ⟨rfl, rfl⟩ | ⟨rfl, rfl⟩)
  · exact h0 _ ⟨.inr (.inl ⟨rfl, rfl⟩), by show (2 - (1 : Int)).toNat < (2 - (0 : Int)).toNat; decide⟩
  · exact h1 _ ⟨.inr (.inr ⟨rfl, rfl⟩), by show (2 - (2 : Int)).toNat < (2 - (1 : Int)).toNat; decide⟩
  · exact h2 _
theorem refmul_ev02 {x y : GIval} (hx : okI x) (hy : okI y) : Ev_ref02_Mul x y (mulI x y) := by
  refine walk_ref02_Mul ?_
  unfold W_ref02_Mul
  refine refnone2 hx hy ?_
  unfold mulI
  by_cases h : RIp x ∧ RIp y
  · rw [if_pos h]
    have lx := RIp.lo hx h.1; have ly := RIp.lo hy h.2; have ux := RIp.hi hx h.1; have uy := RIp.hi hy h.2
    refine Br.f (by simp [h]) (Call.mk refempty_ev ?_)
    have step : ∀ (a b lo hi : Nat) (i : Int), NumB a → NumB b → NumB lo → NumB hi → -1 ≤ i → i ≤ 5 → ∀ k : GIval → Int → Prop, k ⟨fminB lo (mulX a b (-1)), fmaxB hi (mulX a b 1)⟩ (i + 1) →
        Call (Ev_ref01_Mul a b (-1 : Int)) fun x454 =>
        Call (Ev_ref01_Mul a b (1 : Int)) fun x456 =>
        Call (Ev_ref02_wider ⟨lo, hi⟩ x454 x456) fun x458 =>
        Let (IntKind.i64.wrap (i + (1 : Int))) fun x460 =>
        k x458 x460 := by
      intro a b lo hi i na nb nlo nhi i1 i2 k hk
      exact Call.mk (refmul_evX _ na nb) (Call.mk (refmul_evX _ na nb) (Call.mk (wider_ev nlo nhi (NumB.mul a b (-1)) (NumB.mul a b 1)) (Let.as (i + 1) (wi (by omega) (by omega)) hk)))
    have n1 := (num_i0.min (NumB.mul x.Lo y.Lo (-1))).1
    have m1 := (num_i1.max (NumB.mul x.Lo y.Lo 1)).1
    have n2 := (n1.min (NumB.mul x.Lo y.Hi (-1))).1
    have m2 := (m1.max (NumB.mul x.Lo y.Hi 1)).1
    have n3 := (n2.min (NumB.mul x.Hi y.Lo (-1))).1
    have m3 := (m2.max (NumB.mul x.Hi y.Lo 1)).1
    refine Loop2.two (a1 := ⟨(fminB (fminB 9218868437227405312 (mulX x.Lo y.Lo (-1))) (mulX x.Lo y.Hi (-1))), (fmaxB (fmaxB 18442240474082181120 (mulX x.Lo y.Lo 1)) (mulX x.Lo y.Hi 1))⟩) (a2 := ⟨loM x y, hiM x y⟩) (fun k hk => ?_) (fun k hk => ?_) (fun k => ?_)
    · refine Br.dT (by simp) (at0 ?_)
      refine Loop2.two (a1 := ⟨(fminB 9218868437227405312 (mulX x.Lo y.Lo (-1))), (fmaxB 18442240474082181120 (mulX x.Lo y.Lo 1))⟩) (a2 := ⟨(fminB (fminB 9218868437227405312 (mulX x.Lo y.Lo (-1))) (mulX x.Lo y.Hi (-1))), (fmaxB (fmaxB 18442240474082181120 (mulX x.Lo y.Lo 1)) (mulX x.Lo y.Hi 1))⟩) (fun k2 hk2 => Br.dT (by simp) (at0 (step _ _ _ _ _ lx ly num_i0 num_i1 (by omega) (by omega) k2 hk2))) (fun k2 hk2 => Br.dT (by simp) (at1 (step _ _ _ _ _ lx uy n1 m1 (by omega) (by omega) k2 hk2))) (fun k2 => Br.dF (by simp) (Let.as 1 (wi (by omega) (by omega)) hk))
    · refine Br.dT (by simp) (at1 ?_)
      refine Loop2.two (a1 := ⟨(fminB (fminB (fminB 9218868437227405312 (mulX x.Lo y.Lo (-1))) (mulX x.Lo y.Hi (-1))) (mulX x.Hi y.Lo (-1))), (fmaxB (fmaxB (fmaxB 18442240474082181120 (mulX x.Lo y.Lo 1)) (mulX x.Lo y.Hi 1)) (mulX x.Hi y.Lo 1))⟩) (a2 := ⟨loM x y, hiM x y⟩) (fun k2 hk2 => Br.dT (by simp) (at0 (step _ _ _ _ _ ux ly n2 m2 (by omega) (by omega) k2 hk2))) (fun k2 hk2 => Br.dT (by simp) (at1 (step _ _ _ _ _ ux uy n3 m3 (by omega) (by omega) k2 hk2))) (fun k2 => Br.dF (by simp) (Let.as 2 (wi (by omega) (by omega)) hk))
    · exact Br.dF (by simp) (Call.mk (refends_ev (num_loM x y) (num_hiM x y)) rfl)
  · rw [if_neg h]
    exact Br.t (by rw [decide_eq_false h]; rfl) (Call.mk refempty_ev rfl)
end Go.Sim.YtlkpbnhinnhlfaaGreat
