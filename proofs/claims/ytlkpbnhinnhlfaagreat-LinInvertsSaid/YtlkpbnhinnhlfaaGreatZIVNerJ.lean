/- What is proved: what lin.Inverse yields holds the exact inverse, place by place. -/
import Derived.Test.YtlkpbnhinnhlfaaGreatZIVNerG
import Derived.Test.YtlkpbnhinnhlfaaGreatZIVFltZ

namespace Go.Sim.YtlkpbnhinnhlfaaGreat
open Go.RowKit Go.Proofs Go.Proofs.Tryz
set_option exponentiation.threshold 5000
theorem abs_v {b : Nat} (hb : b < 18446744073709551616) : absQ (vQ (fI b)) = vQ (fI (rungB b)) := by
  rw [fI_small (rung_lt hb)]
  have := rung_abs b
  unfold absQ
  by_cases h : 0 ≤ fI b
  · have h0 := vQ_mono h
    rw [vQ_zero] at h0
    rw [if_pos h0]; congr 1; omega
  · have h0 := vQ_mono (show fI b ≤ 0 by omega)
    rw [vQ_zero] at h0
    have e : vQ ((rungB b : Nat) : Int) = -vQ (fI b) := by rw [← vQ_neg]; congr 1; omega
    rw [e]
    split
    · grind
    · rfl
theorem negB_nn {b : Nat} (h : NN b) : negB b = false := by
  have h1 := h.n.z
  have h2 := h.n.l
  have h3 := h.p
  unfold negB
  rw [decide_eq_false_iff_not]
  intro c
  unfold fI at h3
  rw [if_neg (by omega)] at h3
  omega
/-- A quotient of two amounts, rounded up. -/
theorem share_core {D S N : Nat} {u : Rat} {O : Int} (hu : u * (N : Rat) = 1) (hpu : 0 < u) (hS : 0 < S) (hle : D ≤ S) (hone : fV O = (N : Int)) (o1 : -9218868437227405311 ≤ -O) (o2 : -O ≤ 9218868437227405311) :
    -dp (-((D * N : Nat) : Int)) S ≤ O ∧ 0 ≤ -dp (-((D * N : Nat) : Int)) S ∧ (D : Rat) * u ≤ ((fV (-dp (-((D * N : Nat) : Int)) S) : Int) : Rat) * u * ((S : Rat) * u) := by
  have hlow : -O ≤ dp (-((D * N : Nat) : Int)) S := by
    rw [le_dp hS o1 o2, fV_neg, hone]
    have : D * N ≤ N * S := by rw [Nat.mul_comm N]; exact Nat.mul_le_mul_right _ hle
    have h3 : ((D * N : Nat) : Int) ≤ ((N * S : Nat) : Int) := Int.ofNat_le.2 this
    rw [Int.neg_mul, ← Int.natCast_mul]; exact Int.neg_le_neg h3
  have hup : dp (-((D * N : Nat) : Int)) S ≤ 0 := by
    have := dp_mono (P := -((D * N : Nat) : Int)) (P' := 0) (Q := S) (Q' := 1) hS (by decide) (by rw [Int.natCast_one, Int.mul_one, Int.zero_mul]; exact Int.neg_nonpos_of_nonneg (Int.natCast_nonneg _))
    rw [dp_zero (by decide)] at this; exact this
  refine ⟨by omega, by omega, ?_⟩
  have hge : ((D * N : Nat) : Int) ≤ fV (-dp (-((D * N : Nat) : Int)) S) * S := by
    rw [fV_neg]
    rcases dp_Q (P := -((D * N : Nat) : Int)) hS with h | h
    · omega
    · rw [Int.neg_mul]; exact Int.le_neg_of_le_neg h
  generalize -dp (-((D * N : Nat) : Int)) S = x at *
  have q1 : ((D : Rat) * (N : Rat)) ≤ ((fV x : Int) : Rat) * (S : Rat) := by exact_mod_cast hge
  have q2 := Rat.mul_le_mul_of_nonneg_right (Rat.mul_le_mul_of_nonneg_right q1 (Rat.le_of_lt hpu)) (Rat.le_of_lt hpu)
  have e1 : (D : Rat) * (N : Rat) * u * u = (D : Rat) * u := by
    rw [Rat.mul_assoc (D : Rat), Rat.mul_comm (N : Rat) u, hu, Rat.mul_one]
  rw [e1] at q2
  refine Rat.le_trans q2 ?_
  have : ((fV x : Int) : Rat) * (S : Rat) * u * u = ((fV x : Int) : Rat) * u * ((S : Rat) * u) := by grind
  rw [this]; exact Rat.le_refl
section
variable {n : Nat} {r a : Nat → Nat → Nat}
theorem col_ge (hr : SqF n r) {j : Nat} (hj : j < n) : ∀ m, m ≤ n → ∀ i, i < m → fI (rungB (r i j)) ≤ fI (colF r j m)
  | 0, _, i, hi => by omega
  | m + 1, hm, i, hi => by
    have h1 := NN.col hr hj m (by omega)
    have h2 := NN.rung (hr.lt m j (by omega) hj) (hr.fin m j (by omega) hj).n
    have e := (h1.n.max h2.n).2
    have e' : fI (colF r j (m + 1)) = max (fI (colF r j m)) (fI (rungB (r m j))) := e
    rw [e']
    by_cases c : i = m
    · subst c; omega
    · have := col_ge hr hj m (by omega) i (by omega); omega
theorem col_F (hr : SqF n r) {j : Nat} (hj : j < n) : ∀ m, m ≤ n → isF (colF r j m)
  | 0, _ => by unfold colF isF; decide
  | m + 1, hm => by
    have h1 := NN.col hr hj m (by omega)
    have h2 := NN.rung (hr.lt m j (by omega) hj) (hr.fin m j (by omega) hj).n
    have e := (h1.n.max h2.n).2
    have e' : fI (colF r j (m + 1)) = max (fI (colF r j m)) (fI (rungB (r m j))) := e
    have k1 := col_F hr hj m (by omega)
    have k2 := isF_rung.1 (hr.fin m j (by omega) hj)
    have k3 := fI_small (rung_lt (hr.lt m j (by omega) hj))
    unfold isF at k1 ⊢
    have := h2.p
    omega
/-- The share is at least what is far over what is left. -/
theorem shr_ge {d : Nat} (hd : NN d) (hs : fI d < 4602678819172646912) : isF (shr d) ∧ 0 ≤ fI (shr d) ∧ vQ (fI d) ≤ vQ (fI (shr d)) * (1 - vQ (fI d)) := by
  obtain ⟨s1, s2, s3, s4, s5⟩ := rst_ok hd hs
  have hp := hd.p
  have fd : isF d := by unfold isF; omega
  -- what is left
  have hS : vQ (fI (rst d)) ≤ 1 - vQ (fI d) := by
    have := addB_lo (a := 4607182418800017408) (b := Op.negFloat .f64 d) (u := 1) (v := -vQ (fI d)) (by rw [v_one]; exact Rat.le_refl) (by rw [negW_I hd.n.l, vQ_neg]; exact Rat.le_refl)
    rcases this with h | h
    · exact absurd h (by show ¬ fI (rst d) ≤ _; omega)
    · rw [Rat.sub_eq_add_neg]; exact h
  unfold shr divB
  by_cases h0 : rungB d = 0
  · rw [if_pos h0]
    have := rung_abs d
    rw [show fI d = 0 by omega, vQ_zero, show fI 0 = 0 by decide, vQ_zero]
    exact ⟨by unfold isF; decide, by decide, by grind⟩
  rw [if_neg h0, negB_nn hd]
  have ns : NN (rst d) := ⟨⟨s1, s2.n, s3⟩, by omega⟩
  rw [negB_nn ns]
  have hA := fv_qs d
  have hB := fv_qs (rst d)
  rw [Nat.pow_add, ← Nat.mul_assoc, ← hA, ← hB]
  have rd0 : fI d = rungB d := by have := rung_abs d; omega
  have rs0 : fI (rst d) = rungB (rst d) := by have := rung_abs (rst d); omega
  have vd : fV (fI d) = (fv (rungB d) : Int) := by rw [rd0]; unfold fV; rw [if_pos (by omega), Int.toNat_natCast]
  have vs : fV (fI (rst d)) = (fv (rungB (rst d)) : Int) := by rw [rs0]; unfold fV; rw [if_pos (by omega), Int.toNat_natCast]
  have hBp : 0 < fv (rungB (rst d)) := by
    have := fv_lt (r := 0) (t := rungB (rst d)) (by omega)
    omega
  have hle : fv (rungB d) ≤ fv (rungB (rst d)) := fv_le.2 (by omega)
  generalize fv (rungB d) = D at *
  generalize fv (rungB (rst d)) = S at *
  have h2 : 0 < 2 ^ 1074 := Nat.two_pow_pos 1074
  have e : rnd (false != false) (D * 2 ^ 1074) S 1 = rd ((D * 2 ^ 1074 : Nat) : Int) S 1 := by
    unfold rd
    rw [decide_eq_false (by omega), Int.natAbs_natCast]; rfl
  rw [e]
  have hI : fI (rd ((D * 2 ^ 1074 : Nat) : Int) S 1) = -dp (-((D * 2 ^ 1074 : Nat) : Int)) S := fI_rd_up hBp
  have hone : fV 4607182418800017408 = ((2 ^ 1074 : Nat) : Int) := by
    rw [show (4607182418800017408 : Int) = ((1022 * 4503599627370496 + 4503599627370496 : Nat) : Int) by decide]
    unfold fV
    rw [if_pos (by omega), Int.toNat_natCast, fv_mk (by decide) (.inl (by decide)), show (4503599627370496 : Nat) = 2 ^ 52 by decide, ← Nat.pow_add]
  have c := share_core (u := uQ) (O := 4607182418800017408) uQ_mul uQ_pos hBp hle hone (by decide) (by decide)
  clear hone
  rw [← hI] at c
  clear hI e
  obtain ⟨c1, c2, c3⟩ := c
  unfold isF
  generalize fI (rd ((D * 2 ^ 1074 : Nat) : Int) S 1) = x at *
  refine ⟨⟨by omega, by omega⟩, c2, ?_⟩
  have hx0 : 0 ≤ vQ x := by have := vQ_mono c2; rwa [vQ_zero] at this
  have h5 : vQ (fI d) ≤ vQ x * vQ (fI (rst d)) := by
    unfold vQ
    rw [vd, vs, Rat.intCast_natCast, Rat.intCast_natCast]
    exact c3
  exact Rat.le_trans h5 (Rat.mul_le_mul_of_nonneg_left hS hx0)
/-- The inverse, and that it is held. -/
theorem inv_in (hr : SqF n r) (ha : SqF n a) (hn : n ≤ 24) (hs : fI (dlt n r a) < 4602678819172646912) :
    ∃ Y : Nat → Nat → Rat, (∀ k i, i < n → applyQ (fun i j => vQ (fI (a i j))) n (Y k) i = eyeQ i k) ∧ ∀ i k, i < n → k < n → InQ (Y k i) (invI n (dlt n r a) r i k) := by
  obtain ⟨q1, q2⟩ := dlt_near hr ha hs
  have hd : NN (dlt n r a) := nn_dlt hn
  obtain ⟨g1, g2, g3⟩ := shr_ge hd hs
  have hd0 : 0 ≤ vQ (fI (dlt n r a)) := by have := vQ_mono hd.p; rwa [vQ_zero] at this
  generalize dlt n r a = d at *
  have hsol := near_sol q2 (by grind)
  refine ⟨fun k => Classical.choose (hsol k), fun k i hi => Classical.choose_spec (hsol k) i hi, fun i k hi hk => ?_⟩
  show InQ (Classical.choose (hsol k) i) _
  have hy := Classical.choose_spec (hsol k)
  generalize Classical.choose (hsol k) = y at hy ⊢
  have hC : ∀ i, i < n → absQ (vQ (fI (r i k))) ≤ vQ (fI (colF r k n)) := fun i hi => by
    rw [abs_v (hr.lt i k hi hk)]; exact vQ_mono (col_ge hr hk n (Nat.le_refl n) i hi)
  have hb := near_bound q2 (by grind) hd0 hk hy hC hi
  have hC0 : 0 ≤ vQ (fI (colF r k n)) := by have := vQ_mono (NN.col hr hk n (Nat.le_refl n)).p; rwa [vQ_zero] at this
  have hs0 : 0 ≤ vQ (fI (shr d)) := by have := vQ_mono g2; rwa [vQ_zero] at this
  have hle : absQ (y i - vQ (fI (r i k))) ≤ vQ (fI (shr d)) * vQ (fI (colF r k n)) := by
    have h1 := Rat.mul_le_mul_of_nonneg_right g3 hC0
    refine Rat.not_lt.1 fun h => ?_
    have h2 : vQ (fI (shr d)) * vQ (fI (colF r k n)) * (1 - vQ (fI d)) < absQ (y i - vQ (fI (r i k))) * (1 - vQ (fI d)) := Rat.mul_lt_mul_of_pos_right h (by grind)
    grind
  have hU := (mulX_Q g1 (col_F hr hk n (Nat.le_refl n))).2
  have he := NumB.mul (shr d) (colF r k n) 1
  have hpos : 0 ≤ vQ (fI (shr d)) * vQ (fI (colF r k n)) := Rat.mul_nonneg hs0 hC0
  have he0 : 0 ≤ fI (mulX (shr d) (colF r k n) 1) := by
    rcases hU with h | h
    · omega
    · refine vQ_le ?_; rw [vQ_zero]; exact Rat.le_trans hpos h
  have hm : InQ (y i - vQ (fI (r i k))) (makeI (Op.negFloat .f64 (errF n d r k)) (errF n d r k)) := by
    unfold errF
    refine make_in (negF_lt he.l) he.l (negW_N he.l he.n) he.n (by rw [negW_I he.l]; omega) (by omega) ?_ ?_
    · unfold Lw; rw [negW_I he.l]
      rcases hU with h | h
      · exact .inl (by omega)
      · refine .inr ?_
        rw [vQ_neg]
        unfold absQ at hle
        split at hle <;> grind
    · rcases hU with h | h
      · exact .inl h
      · refine .inr ?_
        unfold absQ at hle
        split at hle <;> grind
  have := add_in (ok_pt (hr.lt i k hi hk)) (ok_make (negF_lt he.l) he.l) (pt_in (hr.lt i k hi hk) (hr.fin i k hi hk)) hm
  rw [show vQ (fI (r i k)) + (y i - vQ (fI (r i k))) = y i by grind] at this
  exact this
end
end Go.Sim.YtlkpbnhinnhlfaaGreat

/- What is proved: what is no square matrix is refused. -/
namespace Go.Sim.YtlkpbnhinnhlfaaGreat
open Go.RowKit Go.Proofs Go.Proofs.Tryz
theorem inverse_bad {a : List (List Nat)} (hf : okFF a) (lf : a.length ≤ 9223372036854775807) (h : ¬ (floatsB a = true ∧ a.length = (a.headD []).length)) {R : List (List GIval) × Int → Prop} (hR : R ([], 1)) : W_lin_Inverse a R := by
  unfold W_lin_Inverse
  refine Call.mk (floats_ev hf lf) ?_
  cases hB : floatsB a with
  | false => exact Br.t rfl hR
  | true =>
    have ht := floatsB_true hB
    refine Br.f rfl (At.nat (i := 0) (by omega) fun r hr => ?_)
    have e := headD_of hr
    have : a.length ≠ r.length := fun c => h ⟨hB, by rw [e]; exact c⟩
    exact Br.t (by simp; omega) hR
theorem Lw.weak {u v : Rat} {b : Nat} (h : Lw u b) (hv : u ≤ v) : Lw v b := h.elim .inl fun h => .inr (Rat.le_trans h hv)
theorem Up.weak {u v : Rat} {b : Nat} (h : Up u b) (hv : v ≤ u) : Up v b := h.elim .inl fun h => .inr (Rat.le_trans hv h)
theorem mulX_inf {a b : Nat} (ha : rungB a ≠ 0) (hb : rungB b ≠ 0) (nf : ¬ isF b) (dir : Int) : mulX a b dir = infB (negB a != negB b) := by
  unfold mulX
  rw [if_neg (fun h => h.elim ha hb), if_neg (fun h => nf h.2)]
theorem vQ_z {a : Nat} (h : rungB a = 0) : vQ (fI a) = 0 := by
  have := rung_abs a; rw [h] at this; rw [show fI a = 0 by omega, vQ_zero]
theorem mulX_z {a b : Nat} (h : rungB a = 0) (dir : Int) : mulX a b dir = 0 := by unfold mulX; rw [if_pos (.inl h)]
theorem neg_sign {b : Nat} (h : fI b < 0) : negB b = true := by
  have := fI_eq b
  cases c : negB b with
  | true => rfl
  | false => rw [c, if_neg (by decide)] at this; omega
theorem pos_sign {b : Nat} (h : 0 < fI b) : negB b = false := by
  have := fI_eq b
  cases c : negB b with
  | false => rfl
  | true => rw [c, if_pos rfl] at this; omega
theorem mul_lo_pos {a b : Nat} (fa : isF a) (nb : NumB b) (h0 : 0 ≤ fI a) (lb : fI b < 9218868437227405312) {v : Rat} (hv : Lw v b) : Lw (vQ (fI a) * v) (mulX a b (-1)) := by
  by_cases za : rungB a = 0
  · rw [mulX_z za, vQ_z za, Rat.zero_mul]
    exact .inr (by rw [show fI 0 = 0 by decide, vQ_zero]; exact Rat.le_refl)
  have hr := rung_abs a
  have ha : 0 ≤ vQ (fI a) := by have := vQ_mono h0; rwa [vQ_zero] at this
  by_cases fb : isF b
  · refine (mulX_Q fa fb).1.weak ?_
    unfold isF at fb
    exact Rat.mul_le_mul_of_nonneg_left (hv.resolve_left (by omega)) ha
  · have nn := nb.n
    unfold isF at fb
    unfold isN at nn
    have hb := rung_abs b
    rw [mulX_inf za (by omega) (by unfold isF; exact fb), pos_sign (by omega), neg_sign (show fI b < 0 by omega)]
    exact .inl (by decide)
theorem mul_up_pos {a b : Nat} (fa : isF a) (nb : NumB b) (h0 : 0 ≤ fI a) (lb : -9218868437227405312 < fI b) {v : Rat} (hv : Up v b) : Up (vQ (fI a) * v) (mulX a b (1)) := by
  by_cases za : rungB a = 0
  · rw [mulX_z za, vQ_z za, Rat.zero_mul]
    exact .inr (by rw [show fI 0 = 0 by decide, vQ_zero]; exact Rat.le_refl)
  have hr := rung_abs a
  have ha : 0 ≤ vQ (fI a) := by have := vQ_mono h0; rwa [vQ_zero] at this
  by_cases fb : isF b
  · refine (mulX_Q fa fb).2.weak ?_
    unfold isF at fb
    exact Rat.mul_le_mul_of_nonneg_left (hv.resolve_left (by omega)) ha
  · have nn := nb.n
    unfold isF at fb
    unfold isN at nn
    have hb := rung_abs b
    rw [mulX_inf za (by omega) (by unfold isF; exact fb), pos_sign (by omega), pos_sign (show 0 < fI b by omega)]
    exact .inl (by decide)
theorem mul_up_neg {a b : Nat} (fa : isF a) (nb : NumB b) (h0 : fI a ≤ 0) (lb : fI b < 9218868437227405312) {v : Rat} (hv : Lw v b) : Up (vQ (fI a) * v) (mulX a b (1)) := by
  by_cases za : rungB a = 0
  · rw [mulX_z za, vQ_z za, Rat.zero_mul]
    exact .inr (by rw [show fI 0 = 0 by decide, vQ_zero]; exact Rat.le_refl)
  have hr := rung_abs a
  have ha : vQ (fI a) ≤ 0 := by have := vQ_mono h0; rwa [vQ_zero] at this
  by_cases fb : isF b
  · refine (mulX_Q fa fb).2.weak ?_
    unfold isF at fb
    have h := hv.resolve_left (by omega)
    have := Rat.mul_le_mul_of_nonneg_left h (show 0 ≤ -vQ (fI a) by grind)
    grind
  · have nn := nb.n
    unfold isF at fb
    unfold isN at nn
    have hb := rung_abs b
    rw [mulX_inf za (by omega) (by unfold isF; exact fb), neg_sign (by omega), neg_sign (show fI b < 0 by omega)]
    exact .inl (by decide)
theorem mul_lo_neg {a b : Nat} (fa : isF a) (nb : NumB b) (h0 : fI a ≤ 0) (lb : -9218868437227405312 < fI b) {v : Rat} (hv : Up v b) : Lw (vQ (fI a) * v) (mulX a b (-1)) := by
  by_cases za : rungB a = 0
  · rw [mulX_z za, vQ_z za, Rat.zero_mul]
    exact .inr (by rw [show fI 0 = 0 by decide, vQ_zero]; exact Rat.le_refl)
  have hr := rung_abs a
  have ha : vQ (fI a) ≤ 0 := by have := vQ_mono h0; rwa [vQ_zero] at this
  by_cases fb : isF b
  · refine (mulX_Q fa fb).1.weak ?_
    unfold isF at fb
    have h := hv.resolve_left (by omega)
    have := Rat.mul_le_mul_of_nonneg_left h (show 0 ≤ -vQ (fI a) by grind)
    grind
  · have nn := nb.n
    unfold isF at fb
    unfold isN at nn
    have hb := rung_abs b
    rw [mulX_inf za (by omega) (by unfold isF; exact fb), neg_sign (by omega), pos_sign (show 0 < fI b by omega)]
    exact .inl (by decide)
/-- A point times an interval. -/
theorem mul_in {a : Nat} {y : GIval} (la : a < 18446744073709551616) (fa : isF a) (hy : okI y) {v : Rat} (h : InQ v y) : InQ (vQ (fI a) * v) (mulI (ptI a) y) := by
  obtain ⟨r1, l1, h1⟩ := pt_ends la fa
  obtain ⟨c1, e1⟩ := clean_num la fa.n
  have fc : isF (cleanB a) := by unfold isF at fa ⊢; omega
  have ly := RIp.lo hy h.1; have uy := RIp.hi hy h.1
  unfold mulI
  rw [if_pos ⟨r1, h.1⟩, ← e1]
  refine ends_in (num_loM _ _) (num_hiM _ _) ?_ ?_
  · have n1 := num_i0.min (NumB.mul (cleanB a) y.Lo (-1))
    have n2 := n1.1.min (NumB.mul (cleanB a) y.Hi (-1))
    have n3 := n2.1.min (NumB.mul (cleanB a) y.Lo (-1))
    have n4 := n3.1.min (NumB.mul (cleanB a) y.Hi (-1))
    unfold loM
    rw [l1, h1]
    by_cases c : 0 ≤ fI (cleanB a)
    · exact (mul_lo_pos fc ly c h.1.2.2.2.1 h.2.1).le (by omega)
    · exact (mul_lo_neg fc uy (by omega) h.1.2.2.2.2.1 h.2.2).le (by omega)
  · have n1 := num_i1.max (NumB.mul (cleanB a) y.Lo 1)
    have n2 := n1.1.max (NumB.mul (cleanB a) y.Hi 1)
    have n3 := n2.1.max (NumB.mul (cleanB a) y.Lo 1)
    have n4 := n3.1.max (NumB.mul (cleanB a) y.Hi 1)
    unfold hiM
    rw [l1, h1]
    by_cases c : 0 ≤ fI (cleanB a)
    · exact (mul_up_pos fc uy c h.1.2.2.2.2.1 h.2.2).le (by omega)
    · exact (mul_up_neg fc ly (by omega) h.1.2.2.2.1 h.2.1).le (by omega)
end Go.Sim.YtlkpbnhinnhlfaaGreat

/- What is proved: the reference's order of numbers is that of amounts, for exponents to 20000. -/
namespace Go.Sim.YtlkpbnhinnhlfaaGreat
open Go.RowKit Go.Proofs Go.Proofs.Tryz
set_option exponentiation.threshold 50000
/-- An amount with its exponent, in units of 2^-20000. -/
def amtY (m : Nat) (e : Int) : Nat := m * 2 ^ (e + 20000).toNat
/-- A number of the reference, in these units. -/
def valY (s : Bool) (m : Nat) (e : Int) : Int := valS s (amtY m e)
theorem amtY_level {m n : Nat} {e f : Int} (he : -20000 ≤ e) (hf : -20000 ≤ f) : amtY m e < amtY n f ↔ m * 2 ^ (e - f).toNat < n * 2 ^ (f - e).toNat := by
  unfold amtY
  have hp := Nat.two_pow_pos (min e f + 20000).toNat
  have e1 : m * 2 ^ (e + 20000).toNat = m * 2 ^ (e - f).toNat * 2 ^ (min e f + 20000).toNat := by rw [Nat.mul_assoc, ← Nat.pow_add]; congr 2; omega
  have e2 : n * 2 ^ (f + 20000).toNat = n * 2 ^ (f - e).toNat * 2 ^ (min e f + 20000).toNat := by rw [Nat.mul_assoc, ← Nat.pow_add]; congr 2; omega
  rw [e1, e2]
  exact ⟨fun h => Nat.lt_of_mul_lt_mul_right h, fun h => Nat.mul_lt_mul_of_pos_right h hp⟩
theorem amtY_zero {m : Nat} {e : Int} : amtY m e = 0 ↔ m = 0 := by
  unfold amtY
  have hp := Nat.two_pow_pos (e + 20000).toNat
  constructor
  · intro h
    rcases Nat.mul_eq_zero.1 h with h | h
    · exact h
    · omega
  · intro h; rw [h, Nat.zero_mul]
theorem sgS_amtY (s : Bool) (m : Nat) (e : Int) : sgS s (amtY m e) = sgS s m := by
  unfold sgS
  by_cases h : m = 0
  · rw [if_pos h, if_pos (amtY_zero.2 h)]
  · rw [if_neg h, if_neg (fun k => h (amtY_zero.1 k))]
theorem cmpS_amtY {m n : Nat} {e f : Int} (he : -20000 ≤ e) (hf : -20000 ≤ f) : cmpS (m * 2 ^ (e - f).toNat) (n * 2 ^ (f - e).toNat) = cmpS (amtY m e) (amtY n f) := by
  have h1 := @amtY_level m n e f he hf
  have h2 := @amtY_level n m f e hf he
  unfold cmpS
  simp only [h1, h2]
theorem bits_ltY {m n : Nat} {e f : Int} (hn : n ≠ 0) (he : -20000 ≤ e) (_hf : -20000 ≤ f) (h : (blen m : Int) + e < (blen n : Int) + f) : amtY m e < amtY n f := by
  have h1 := blen_lt m
  have h2 := blen_ge hn
  have h3 : 1 ≤ blen n := by rw [blen_pos hn]; omega
  unfold amtY
  have p1 := Nat.two_pow_pos (e + 20000).toNat
  have p2 := Nat.two_pow_pos (f + 20000).toNat
  have a1 : m * 2 ^ (e + 20000).toNat < 2 ^ (blen m + (e + 20000).toNat) := by rw [Nat.pow_add]; exact Nat.mul_lt_mul_of_pos_right h1 p1
  have a2 : 2 ^ (blen n - 1 + (f + 20000).toNat) ≤ n * 2 ^ (f + 20000).toNat := by rw [Nat.pow_add]; exact Nat.mul_le_mul_right _ h2
  by_cases hf : -20000 ≤ f
  · exact Nat.lt_of_lt_of_le a1 (Nat.le_trans (Nat.pow_le_pow_right (by decide) (by omega)) a2)
  · omega
theorem order_evY {s t : Bool} {m n : Nat} {e f : Int} (hs : m = 0 → s = false) (ht : n = 0 → t = false) (hm : (dig m).length ≤ 10000) (hn : (dig n).length ≤ 10000) (he : -20000 ≤ e ∧ e ≤ 20000) (hf : -20000 ≤ f ∧ f ≤ 20000) :
    Ev_ref01_Order (numZ s m e) (numZ t n f) (sgnS (valY s m e) (valY t n f)) := by
  refine walk_ref01_Order ?_
  unfold W_ref01_Order
  have hs' : amtY m e = 0 → s = false := fun h => hs (amtY_zero.1 h)
  have ht' : amtY n f = 0 → t = false := fun h => ht (amtY_zero.1 h)
  refine Call.mk (sign_ev s m e) (Call.mk (sign_ev t n f) ?_)
  by_cases hd : sgS s m = sgS t n
  · refine Br.f (by simp [hd]) (Call.mk (sign_ev s m e) (Br.e (fun h0 => ?_) (fun h0 => ?_)))
    · exact (ord_zero (by rw [sgS_amtY, sgS_amtY]; exact hd) (by rw [sgS_amtY]; exact h0)).symm
    · have hm0 : m ≠ 0 := fun h => h0 (by unfold sgS; rw [if_pos h])
      have hn0 : n ≠ 0 := fun h => h0 (by rw [hd]; unfold sgS; rw [if_pos h])
      have bm := blen_dig_len hm
      have bn := blen_dig_len hn
      have hst := ord_same (s := s) (t := t) (m := amtY m e) (n := amtY n f) (by rw [sgS_amtY, sgS_amtY]; exact hd) (by rw [sgS_amtY]; exact h0)
      have hbd := cmpS_bd (amtY m e) (amtY n f)
      refine Call.mk (bits_ev m (by omega)) (Let.as ((blen m : Int) + e) (by show IntKind.i64.wrap ((blen m : Int) + e) = _; rw [wi (by omega) (by omega)]) (Call.mk (bits_ev n (by omega)) (Let.as ((blen n : Int) + f) (by show IntKind.i64.wrap ((blen n : Int) + f) = _; rw [wi (by omega) (by omega)]) ⟨fun x => x = cmpS (amtY m e) (amtY n f), ?_, fun x hx => ?_⟩)))
      · refine Br.d (fun h => ?_) (fun h => Br.d (fun h2 => ?_) (fun h2 => Call.mk (level_ev s t m n e f (by omega) (by omega) ⟨by omega, by omega⟩ ⟨by omega, by omega⟩) (Call.mk (cmp_ev _ _ (pow_dig_len hm (by omega))) ?_)))
        · have := bits_ltY (e := e) (f := f) hn0 he.1 hf.1 h
          unfold cmpS; rw [if_pos this]
        · have := bits_ltY (e := f) (f := e) hm0 hf.1 he.1 h2
          unfold cmpS; rw [if_neg (by omega), if_pos this]
        · exact cmpS_amtY he.1 hf.1
      · subst hx
        have hst' : sgnS (valY s m e) (valY t n f) = _ := hst
        rw [hst']
        cases s with
        | true => exact Br.t rfl (Let.as (-(cmpS (amtY m e) (amtY n f))) (by rw [wi (by omega) (by omega)]; omega) rfl)
        | false => exact Br.f rfl rfl
  · have := ord_diff (s := s) (t := t) (m := amtY m e) (n := amtY n f) hs' ht' (by rw [sgS_amtY, sgS_amtY]; exact hd)
    rw [sgS_amtY, sgS_amtY] at this
    have this' : sgnS (valY s m e) (valY t n f) = _ := this
    rw [this']
    refine Br.t (by simp [hd]) (Call.mk (sign_ev s m e) (Call.mk (sign_ev t n f) (Br.d (fun h => ?_) (fun h => ?_))))
    · rw [if_pos h]
    · rw [if_neg h]
end Go.Sim.YtlkpbnhinnhlfaaGreat
