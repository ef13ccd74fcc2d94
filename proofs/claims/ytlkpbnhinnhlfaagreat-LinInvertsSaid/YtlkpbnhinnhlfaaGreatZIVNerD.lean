/- What is proved: what intervals of floats hold: sums, products of points, negatives; amounts and norms bound what they hold. -/
import Derived.Test.YtlkpbnhinnhlfaaGreatZIVMatK

namespace Go.Sim.YtlkpbnhinnhlfaaGreat
open Go.RowKit Go.Proofs Go.Proofs.Tryz
set_option exponentiation.threshold 5000
/-! ### The numbers of places -/
theorem inv_nat {n : Nat} (h : 0 < n) : 0 < ((n : Nat) : Rat)⁻¹ ∧ ((n : Nat) : Rat)⁻¹ * ((n : Nat) : Rat) = 1 := by
  have h0 : (0 : Rat) < (n : Rat) := by exact_mod_cast h
  exact ⟨Rat.inv_pos.2 h0, Rat.inv_mul_cancel _ (by intro e; rw [e] at h0; exact absurd h0 (by decide))⟩
theorem add_leQ {a b c d : Rat} (h : a ≤ b) (k : c ≤ d) : a + c ≤ b + d := by grind
/-- The least amount of a float. -/
def uQ : Rat := ((2 ^ 1074 : Nat) : Rat)⁻¹
theorem uQ_pos : 0 < uQ := (inv_nat (Nat.two_pow_pos 1074)).1
theorem uQ_mul : uQ * ((2 ^ 1074 : Nat) : Rat) = 1 := (inv_nat (Nat.two_pow_pos 1074)).2
def vQ (i : Int) : Rat := ((fV i : Int) : Rat) * uQ
theorem vQ_mono {i j : Int} (h : i ≤ j) : vQ i ≤ vQ j := by
  unfold vQ
  exact Rat.mul_le_mul_of_nonneg_right (by exact_mod_cast fV_mono h) (Rat.le_of_lt uQ_pos)
theorem vQ_le {i j : Int} (h : vQ i ≤ vQ j) : i ≤ j := by
  by_cases c : i ≤ j
  · exact c
  · have h1 := fV_lt (show j < i by omega)
    have h2 : ((fV j : Int) : Rat) * uQ < ((fV i : Int) : Rat) * uQ := Rat.mul_lt_mul_of_pos_right (by exact_mod_cast h1) uQ_pos
    unfold vQ at h
    exact absurd h (Rat.not_le.2 h2)
theorem vQ_neg (i : Int) : vQ (-i) = -vQ i := by unfold vQ; rw [fV_neg, Rat.intCast_neg, Rat.neg_mul]
theorem vQ_zero : vQ 0 = 0 := by unfold vQ; rw [show fV 0 = 0 by decide]; simp
/-- Not above, not below what a word tells. -/
def Lw (u : Rat) (b : Nat) : Prop := fI b ≤ -9218868437227405312 ∨ vQ (fI b) ≤ u
def Up (u : Rat) (b : Nat) : Prop := 9218868437227405312 ≤ fI b ∨ u ≤ vQ (fI b)
/-- An interval holds a number. -/
def InQ (u : Rat) (x : GIval) : Prop := RIp x ∧ Lw u x.Lo ∧ Up u x.Hi
theorem Lw.le {u : Rat} {b c : Nat} (h : Lw u b) (hc : fI c ≤ fI b) : Lw u c := by
  rcases h with h | h
  · exact .inl (by omega)
  · exact .inr (Rat.le_trans (vQ_mono hc) h)
theorem Up.le {u : Rat} {b c : Nat} (h : Up u b) (hc : fI b ≤ fI c) : Up u c := by
  rcases h with h | h
  · exact .inl (by omega)
  · exact .inr (Rat.le_trans h (vQ_mono hc))
theorem dp_Q {P : Int} {Q : Nat} (hQ : 0 < Q) : dp P Q = -9218868437227405312 ∨ fV (dp P Q) * Q ≤ P := by
  have h := dp_range P Q
  by_cases c : dp P Q = -9218868437227405312
  · exact .inl c
  · exact .inr ((le_dp hQ (by omega) h.2).1 (Int.le_refl _))
theorem addB_lo {a b : Nat} {u v : Rat} (hu : vQ (fI a) ≤ u) (hv : vQ (fI b) ≤ v) : Lw (u + v) (addB a b (-1)) := by
  unfold Lw
  rw [addB_rd, fI_rd_dn]
  rcases dp_Q (P := fV (fI a) + fV (fI b)) (Q := 1) (by decide) with h | h
  · exact .inl (by omega)
  · refine .inr (Rat.le_trans ?_ (add_leQ hu hv))
    unfold vQ
    rw [← Rat.add_mul]
    refine Rat.mul_le_mul_of_nonneg_right ?_ (Rat.le_of_lt uQ_pos)
    have h2 : fV (dp (fV (fI a) + fV (fI b)) 1) ≤ fV (fI a) + fV (fI b) := by simpa using h
    exact_mod_cast h2
theorem addB_up {a b : Nat} {u v : Rat} (hu : u ≤ vQ (fI a)) (hv : v ≤ vQ (fI b)) : Up (u + v) (addB a b 1) := by
  unfold Up
  rw [addB_rd, fI_rd_up (by decide)]
  rcases dp_Q (P := -(fV (fI a) + fV (fI b))) (Q := 1) (by decide) with h | h
  · exact .inl (by omega)
  · refine .inr (Rat.le_trans (add_leQ hu hv) ?_)
    unfold vQ
    rw [← Rat.add_mul]
    refine Rat.mul_le_mul_of_nonneg_right ?_ (Rat.le_of_lt uQ_pos)
    have h2 : fV (fI a) + fV (fI b) ≤ fV (-dp (-(fV (fI a) + fV (fI b))) 1) := by rw [fV_neg]; simp only [Int.natCast_one, Int.mul_one] at h; omega
    exact_mod_cast h2
theorem addX_lo {a b : Nat} (ha : NumB a) (hb : NumB b) (la : fI a < 9218868437227405312) (lb : fI b < 9218868437227405312) {u v : Rat} (hu : Lw u a) (hv : Lw v b) : Lw (u + v) (addX a b (-1)) := by
  unfold addX
  by_cases fa : isF a
  · rw [if_pos fa]
    by_cases fb : isF b
    · rw [if_pos fb]
      unfold isF at fa fb
      exact addB_lo (hu.resolve_left (by omega)) (hv.resolve_left (by omega))
    · rw [if_neg fb]; unfold isF at fb; have := hb.n; unfold isN at this; exact .inl (by omega)
  · rw [if_neg fa]; unfold isF at fa; have := ha.n; unfold isN at this; exact .inl (by omega)
theorem addX_up {a b : Nat} (ha : NumB a) (hb : NumB b) (la : -9218868437227405312 < fI a) (lb : -9218868437227405312 < fI b) {u v : Rat} (hu : Up u a) (hv : Up v b) : Up (u + v) (addX a b 1) := by
  unfold addX
  by_cases fa : isF a
  · rw [if_pos fa]
    by_cases fb : isF b
    · rw [if_pos fb]
      unfold isF at fa fb
      exact addB_up (hu.resolve_left (by omega)) (hv.resolve_left (by omega))
    · rw [if_neg fb]; unfold isF at fb; have := hb.n; unfold isN at this; exact .inl (by omega)
  · rw [if_neg fa]; unfold isF at fa; have := ha.n; unfold isN at this; exact .inl (by omega)
theorem clean_num {b : Nat} (hb : b < 18446744073709551616) (hn : isN b) : NumB (cleanB b) ∧ fI (cleanB b) = fI b := by
  unfold cleanB
  split
  · rename_i h
    exact ⟨NumB.zero, by have := rung_abs b; rw [h] at this; rw [show fI 0 = 0 by decide]; omega⟩
  · rename_i h
    refine ⟨⟨hb, hn, fun e => h (by rw [e]; decide)⟩, rfl⟩
theorem make_in {lo hi : Nat} (hl : lo < 18446744073709551616) (hh : hi < 18446744073709551616) (nl : isN lo) (nh : isN hi) (l1 : fI lo < 9218868437227405312) (h1 : -9218868437227405312 < fI hi) {u : Rat} (hu : Lw u lo) (hv : Up u hi) : InQ u (makeI lo hi) := by
  obtain ⟨c1, e1⟩ := clean_num hl nl
  obtain ⟨c2, e2⟩ := clean_num hh nh
  have hle : fI lo ≤ fI hi := by
    rcases hu with hu | hu
    · unfold isN at nh; omega
    · rcases hv with hv | hv
      · unfold isN at nl; omega
      · exact vQ_le (Rat.le_trans hu hv)
  have hr : RIp ⟨cleanB lo, cleanB hi⟩ := ⟨c1.n, c2.n, by show fI (cleanB lo) ≤ fI (cleanB hi); omega, by show fI (cleanB lo) < _; omega, by show _ < fI (cleanB hi); omega, c1.z, c2.z⟩
  have e : makeI lo hi = ⟨cleanB lo, cleanB hi⟩ := by
    unfold makeI
    rw [if_pos (by unfold rightB; rw [decide_eq_true_iff]; exact .inr hr)]
  rw [e]
  exact ⟨hr, hu.le (by show fI (cleanB lo) ≤ _; omega), hv.le (by show _ ≤ fI (cleanB hi); omega)⟩
theorem ends_in {lo hi : Nat} (hl : NumB lo) (hh : NumB hi) {u : Rat} (hu : Lw u lo) (hv : Up u hi) : InQ u (endsI lo hi) := by
  obtain ⟨m1, e1⟩ := hl.min num_max
  obtain ⟨m2, e2⟩ := hh.max num_min
  have k1 : fI 9218868437227405311 = 9218868437227405311 := by decide
  have k2 : fI 18442240474082181119 = -9218868437227405311 := by decide
  rw [k1] at e1
  rw [k2] at e2
  exact make_in m1.l m2.l m1.n m2.n (by omega) (by omega) (hu.le (by omega)) (hv.le (by omega))
theorem add_in {x y : GIval} (hx : okI x) (hy : okI y) {u v : Rat} (h : InQ u x) (k : InQ v y) : InQ (u + v) (addI x y) := by
  unfold addI
  rw [if_pos ⟨h.1, k.1⟩]
  have lx := RIp.lo hx h.1; have ly := RIp.lo hy k.1; have ux := RIp.hi hx h.1; have uy := RIp.hi hy k.1
  exact ends_in (lx.add ly _) (ux.add uy _) (addX_lo lx ly h.1.2.2.2.1 k.1.2.2.2.1 h.2.1 k.2.1) (addX_up ux uy h.1.2.2.2.2.1 k.1.2.2.2.2.1 h.2.2 k.2.2)
theorem neg_in {x : GIval} (hx : okI x) {u : Rat} (h : InQ u x) : InQ (-u) (negI x) := by
  unfold negI
  rw [if_pos h.1]
  have e1 := negW_I hx.1
  have e2 := negW_I hx.2
  refine make_in (negF_lt hx.2) (negF_lt hx.1) (negW_N hx.2 h.1.2.1) (negW_N hx.1 h.1.1) (by rw [e2]; have := h.1.2.2.2.2.1; omega) (by rw [e1]; have := h.1.2.2.2.1; omega) ?_ ?_
  · unfold Lw; rw [e2]
    rcases h.2.2 with h | h
    · exact .inl (by omega)
    · refine .inr ?_; rw [vQ_neg]; grind
  · unfold Up; rw [e1]
    rcases h.2.1 with h | h
    · exact .inl (by omega)
    · refine .inr ?_; rw [vQ_neg]; grind
theorem sub_in {x y : GIval} (hx : okI x) (hy : okI y) {u v : Rat} (h : InQ u x) (k : InQ v y) : InQ (u - v) (subI x y) := by
  have := add_in hx (ok_neg hy) h (neg_in hy k)
  rw [Rat.sub_eq_add_neg]; exact this
theorem pt_in {v : Nat} (hv : v < 18446744073709551616) (hf : isF v) : InQ (vQ (fI v)) (ptI v) := by
  have hf' := hf
  unfold isF at hf'
  exact make_in hv hv hf.n hf.n hf'.2 hf'.1 (.inr Rat.le_refl) (.inr Rat.le_refl)
theorem pt_ends {v : Nat} (hv : v < 18446744073709551616) (hf : isF v) : RIp (ptI v) ∧ (ptI v).Lo = cleanB v ∧ (ptI v).Hi = cleanB v := by
  obtain ⟨c1, e1⟩ := clean_num hv hf.n
  have hf' := hf
  unfold isF at hf'
  have hr : RIp ⟨cleanB v, cleanB v⟩ := ⟨c1.n, c1.n, Int.le_refl _, by show fI (cleanB v) < _; omega, by show _ < fI (cleanB v); omega, c1.z, c1.z⟩
  have e : ptI v = ⟨cleanB v, cleanB v⟩ := by
    unfold ptI makeI
    rw [if_pos (by unfold rightB; rw [decide_eq_true_iff]; exact .inr hr)]
  rw [e]; exact ⟨hr, rfl, rfl⟩
theorem mulX_Q {a b : Nat} (fa : isF a) (fb : isF b) : Lw (vQ (fI a) * vQ (fI b)) (mulX a b (-1)) ∧ Up (vQ (fI a) * vQ (fI b)) (mulX a b 1) := by
  have fz : ∀ {x : Nat}, rungB x = 0 → vQ (fI x) = 0 := fun {x} h => by
    have := rung_abs x; rw [h] at this
    rw [show fI x = 0 by omega, vQ_zero]
  unfold mulX
  by_cases hz : rungB a = 0 ∨ rungB b = 0
  · rw [if_pos hz, if_pos hz]
    have e : vQ (fI a) * vQ (fI b) = 0 := by rcases hz with h | h <;> rw [fz h] <;> simp
    rw [e]
    exact ⟨.inr (by rw [show fI 0 = 0 by decide, vQ_zero]; exact Rat.le_refl), .inr (by rw [show fI 0 = 0 by decide, vQ_zero]; exact Rat.le_refl)⟩
  · rw [if_neg hz, if_pos ⟨fa, fb⟩, if_neg hz, if_pos ⟨fa, fb⟩]
    have hu := uQ_mul
    have hp := uQ_pos
    have key : ∀ d P : Int, d * ((2 ^ 1074 : Nat) : Int) ≤ P → (d : Rat) * uQ ≤ (P : Rat) * uQ * uQ := fun d P h => by
      generalize (2 ^ 1074 : Nat) = N at h hu
      have h1 : (d : Rat) * (N : Rat) ≤ (P : Rat) := by exact_mod_cast h
      have h2 := Rat.mul_le_mul_of_nonneg_right (Rat.mul_le_mul_of_nonneg_right h1 (Rat.le_of_lt hp)) (Rat.le_of_lt hp)
      rw [Rat.mul_assoc (d : Rat), Rat.mul_comm (N : Rat) uQ, hu, Rat.mul_one] at h2
      exact h2
    have epr : vQ (fI a) * vQ (fI b) = ((fV (fI a) * fV (fI b) : Int) : Rat) * uQ * uQ := by
      unfold vQ; rw [Rat.intCast_mul]; grind
    have h0 : 0 < 2 ^ 1074 := Nat.two_pow_pos 1074
    rw [epr]
    constructor
    · unfold Lw
      rw [mulB_rd, fI_rd_dn]
      rcases dp_Q (P := fV (fI a) * fV (fI b)) h0 with h | h
      · exact .inl (by omega)
      · exact .inr (key _ _ h)
    · unfold Up
      rw [mulB_rd, fI_rd_up h0]
      rcases dp_Q (P := -(fV (fI a) * fV (fI b))) h0 with h | h
      · exact .inl (by omega)
      · refine .inr ?_
        have := key _ _ h
        rw [Rat.intCast_neg] at this
        rw [vQ_neg]
        unfold vQ
        grind
theorem mul_pt {a b : Nat} (ha : a < 18446744073709551616) (hb : b < 18446744073709551616) (fa : isF a) (fb : isF b) : InQ (vQ (fI a) * vQ (fI b)) (mulI (ptI a) (ptI b)) := by
  obtain ⟨r1, l1, h1⟩ := pt_ends ha fa
  obtain ⟨r2, l2, h2⟩ := pt_ends hb fb
  obtain ⟨c1, e1⟩ := clean_num ha fa.n
  obtain ⟨c2, e2⟩ := clean_num hb fb.n
  unfold mulI
  rw [if_pos ⟨r1, r2⟩]
  have q := mulX_Q (a := cleanB a) (b := cleanB b) (by unfold isF at fa ⊢; omega) (by unfold isF at fb ⊢; omega)
  rw [e1, e2] at q
  refine ends_in (num_loM _ _) (num_hiM _ _) (q.1.le ?_) (q.2.le ?_)
  · unfold loM
    rw [l1, l2, h1, h2]
    have n1 := (num_i0.min (NumB.mul (cleanB a) (cleanB b) (-1))).1
    have n2 := (n1.min (NumB.mul (cleanB a) (cleanB b) (-1))).1
    have n3 := (n2.min (NumB.mul (cleanB a) (cleanB b) (-1))).1
    have := (n3.min (NumB.mul (cleanB a) (cleanB b) (-1))).2
    omega
  · unfold hiM
    rw [l1, l2, h1, h2]
    have n1 := (num_i1.max (NumB.mul (cleanB a) (cleanB b) 1)).1
    have n2 := (n1.max (NumB.mul (cleanB a) (cleanB b) 1)).1
    have n3 := (n2.max (NumB.mul (cleanB a) (cleanB b) 1)).1
    have := (n3.max (NumB.mul (cleanB a) (cleanB b) 1)).2
    omega
/-! ### Sums of products, amounts -/
theorem zero_in : InQ 0 (makeI 0 0) := by
  have := pt_in (v := 0) (by decide) (by unfold isF; decide)
  rwa [show fI 0 = 0 by decide, vQ_zero] at this
theorem dot_in {n : Nat} {a b : Nat → GIval} {u v : Nat → Rat} (hm : ∀ k, k < n → InQ (u k * v k) (mulI (a k) (b k))) : InQ (sumQ (fun k => u k * v k) n) (dotI ((List.range n).map a) ((List.range n).map b)) := by
  unfold dotI
  rw [List.zip_map']
  induction n with
  | zero => exact zero_in
  | succ n ih =>
    rw [List.range_succ, List.map_append, List.foldl_append]
    have := ih (fun k hk => hm k (by omega))
    exact add_in (ok_dotF _ _ ok_zero) ok_mul this (hm n (by omega))
theorem mag_up {x : GIval} (hx : okI x) {u : Rat} (h : InQ u x) : Up (absQ u) (magI x) := by
  unfold magI
  rw [if_pos h.1]
  have n1 := NN.rung hx.1 h.1.1
  have n2 := NN.rung hx.2 h.1.2.1
  have e := (n1.n.max n2.n).2
  have r1 := rung_abs x.Lo
  have r2 := rung_abs x.Hi
  have f1 : fI (rungB x.Lo) = rungB x.Lo := fI_small (rung_lt hx.1)
  have f2 : fI (rungB x.Hi) = rungB x.Hi := fI_small (rung_lt hx.2)
  unfold absQ
  split
  · refine Up.le h.2.2 ?_
    rw [e]; omega
  · refine Up.le (b := Op.negFloat .f64 x.Lo) ?_ (by rw [negW_I hx.1, e]; omega)
    unfold Up
    rw [negW_I hx.1]
    rcases h.2.1 with h | h
    · exact .inl (by omega)
    · refine .inr ?_; rw [vQ_neg]; grind
theorem sum_up {n : Nat} {g : Nat → GIval} {u : Nat → Rat} (hg : ∀ k, k < n → okI (g k)) (hu : ∀ k, k < n → InQ (u k) (g k)) : Up (sumQ (fun k => absQ (u k)) n) (sumN ((List.range n).map g)) := by
  unfold sumN
  induction n with
  | zero => exact .inr (by show (0 : Rat) ≤ vQ (fI 0); rw [show fI 0 = 0 by decide, vQ_zero]; exact Rat.le_refl)
  | succ n ih =>
    rw [List.range_succ, List.map_append, List.foldl_append]
    have h1 := ih (fun k hk => hg k (by omega)) (fun k hk => hu k (by omega))
    have hN : NN (List.foldl sumF 0 (List.map g (List.range n))) := nn_sumF _ 0 (fun y hy => by obtain ⟨j, hj, rfl⟩ := mem_rowM hy; exact hg j (by omega)) NN.zero
    have hM := nn_mag (hg n (by omega))
    show Up (sumQ _ n + absQ (u n)) (addX _ (magI (g n)) 1)
    exact addX_up hN.n hM.n (by have := hN.p; omega) (by have := hM.p; omega) h1 (mag_up (hg n (by omega)) (hu n (by omega)))
theorem norm_ge : ∀ (m : List (List GIval)) (t : Nat), NN t → (∀ r ∈ m, okL r) → fI t ≤ fI (m.foldl maxF t) ∧ ∀ r ∈ m, fI (sumN r) ≤ fI (m.foldl maxF t)
  | [], t, _, _ => ⟨Int.le_refl _, fun _ h => (List.not_mem_nil h).elim⟩
  | r :: m, t, ht, hm => by
    have hs := nn_sum (hm r (List.mem_cons_self ..))
    have e := (ht.n.max hs.n).2
    obtain ⟨k1, k2⟩ := norm_ge m (maxF t r) (ht.max hs) (fun q hq => hm q (List.mem_cons_of_mem _ hq))
    have e' : fI (maxF t r) = max (fI t) (fI (sumN r)) := e
    refine ⟨by show fI t ≤ fI (m.foldl maxF (maxF t r)); omega, fun q hq => ?_⟩
    show fI (sumN q) ≤ fI (m.foldl maxF (maxF t r))
    rcases List.mem_cons.1 hq with rfl | hq
    · omega
    · exact k2 q hq
theorem v_one : vQ (fI 4607182418800017408) = 1 := by
  have : fV (fI 4607182418800017408) = ((2 ^ 1074 : Nat) : Int) := by
    rw [show fI 4607182418800017408 = ((1022 * 4503599627370496 + 4503599627370496 : Nat) : Int) by decide]
    unfold fV
    rw [if_pos (by omega), Int.toNat_natCast, fv_mk (by decide) (.inl (by decide)), show (4503599627370496 : Nat) = 2 ^ 52 by decide, ← Nat.pow_add]
  unfold vQ
  rw [this, Rat.intCast_natCast, Rat.mul_comm]
  exact uQ_mul
theorem v_half : vQ (fI 4602678819172646912) * 2 = 1 := by
  have : fV (fI 4602678819172646912) * 2 = ((2 ^ 1074 : Nat) : Int) := by
    rw [show fI 4602678819172646912 = ((1021 * 4503599627370496 + 4503599627370496 : Nat) : Int) by decide]
    unfold fV
    rw [if_pos (by omega), Int.toNat_natCast, fv_mk (by decide) (.inl (by decide)), show (4503599627370496 : Nat) = 2 ^ 52 by decide, ← Nat.pow_add, show (1074 : Nat) = 52 + 1021 + 1 by decide, Nat.pow_succ (n := 2) (m := 52 + 1021)]
    omega
  have h3 := uQ_mul
  generalize (2 ^ 1074 : Nat) = N at this h3
  have h2 : ((fV (fI 4602678819172646912) : Int) : Rat) * 2 = (N : Rat) := by exact_mod_cast this
  rw [← h2] at h3
  unfold vQ
  grind
theorem eye_v (i j : Nat) : vQ (fI (oneV i j)) = eyeQ i j := by
  unfold oneV eyeQ
  split
  · exact v_one
  · rw [show fI 0 = 0 by decide, vQ_zero]
/-- A norm less than a half bounds what the matrix holds. -/
theorem norm_small {n : Nat} {g : Nat → Nat → GIval} {E : Nat → Nat → Rat} (hg : ∀ i j, i < n → j < n → okI (g i j)) (hE : ∀ i j, i < n → j < n → InQ (E i j) (g i j)) (hs : fI (normI (mkM n g)) < 4602678819172646912) :
    vQ (fI (normI (mkM n g))) * 2 < 1 ∧ ∀ i, i < n → sumQ (fun j => absQ (E i j)) n ≤ vQ (fI (normI (mkM n g))) := by
  have hok : ∀ r ∈ mkM n g, okL r := fun r hr x hx => by
    obtain ⟨i, hi, rfl⟩ := mem_mkM hr
    obtain ⟨j, hj, rfl⟩ := mem_rowM hx
    exact hg i j hi hj
  obtain ⟨_, k2⟩ := norm_ge (mkM n g) 0 NN.zero hok
  constructor
  · have h1 : vQ (fI (normI (mkM n g))) < vQ (fI 4602678819172646912) := by
      refine Rat.not_le.1 fun h => ?_
      have := vQ_le h
      rw [show fI 4602678819172646912 = 4602678819172646912 by decide] at this
      omega
    have := v_half
    grind
  · intro i hi
    have := sum_up (fun k hk => hg i k hi hk) (fun k hk => hE i k hi hk)
    have h2 := k2 ((List.range n).map (g i)) (List.mem_of_getElem? (mkM_get hi))
    rcases this.le h2 with h | h
    · exact absurd h (by show ¬ _ ≤ fI (normI _); omega)
    · exact h
end Go.Sim.YtlkpbnhinnhlfaaGreat

/- What is proved: ulp.Div rounds the exact quotient. -/
namespace Go.Sim.YtlkpbnhinnhlfaaGreat
open Go.RowKit Go.Proofs Go.Proofs.Tryz
set_option exponentiation.threshold 5000
/-- A number with its first digit at the top. -/
theorem top64 {M : Nat} (h0 : M ≠ 0) (h : M < 18446744073709551616) : 9223372036854775808 ≤ M * 2 ^ (64 - blen M) ∧ M * 2 ^ (64 - blen M) < 18446744073709551616 ∧ 64 - blen M ≤ 63 := by
  have h1 := blen_lt M
  have h2 := blen_ge h0
  have h3 : blen M ≤ 64 := (blen_le M 64).2 (by simpa using h)
  have h4 : 1 ≤ blen M := by
    rcases Nat.eq_zero_or_pos (blen M) with e | e
    · rw [e] at h1; omega
    · exact e
  have e1 : 2 ^ (blen M - 1) * 2 ^ (64 - blen M) = 9223372036854775808 := by rw [← Nat.pow_add, show blen M - 1 + (64 - blen M) = 63 by omega]
  have e2 : 2 ^ blen M * 2 ^ (64 - blen M) = 18446744073709551616 := by rw [← Nat.pow_add, show blen M + (64 - blen M) = 64 by omega]
  have p := Nat.two_pow_pos (64 - blen M)
  have m1 := Nat.mul_le_mul_right (2 ^ (64 - blen M)) h2
  have m2 := Nat.mul_lt_mul_of_pos_right h1 p
  rw [e1] at m1
  rw [e2] at m2
  exact ⟨m1, m2, by omega⟩
/-- The exact quotient's word. -/
def divB (a b : Nat) (dir : Int) : Nat := if rungB a = 0 then 0 else rnd (negB a != negB b) (qP a * 2 ^ (sP a + 1074)) (qP b * 2 ^ sP b) dir
theorem shl_top {M n : Nat} (h : M * 2 ^ n < 18446744073709551616) (hn : n ≤ 63) : IntKind.u64.wrap ((M : Int) * 2 ^ (min (Int.toNat ((n : Nat) : Int)) 64)) = ((M * 2 ^ n : Nat) : Int) := by
  rw [Int.toNat_natCast, Nat.min_eq_left (by omega)]
  have e : ((M : Int) * 2 ^ n) = ((M * 2 ^ n : Nat) : Int) := by rw [Int.natCast_mul, Int.natCast_pow]; rfl
  rw [e]
  exact wu (by omega) (by omega)
theorem div_ev {a b : Nat} (dir : Int) (ha : a < 18446744073709551616) (hb : b < 18446744073709551616) (fa : isF a) (fb : isF b) (h0 : rungB b ≠ 0) : Ev_ulp_Div a b dir (divB a b dir) := by
  refine walk_ulp_Div ?_
  unfold W_ulp_Div
  refine Call.mk (both_ev ha hb) (Br.f (by rw [eq_zero hb]; simp [h0]) (Br.f (by simp [fa, fb]) ?_))
  simp only [if_pos fa, if_pos fb]
  unfold divB
  by_cases za : rungB a = 0
  · rw [if_pos za]
    exact Br.eT (by unfold partsB; rw [if_pos za]) rfl
  rw [if_neg za]
  obtain ⟨pa, na⟩ := parts_ok fa za
  obtain ⟨pb, nb⟩ := parts_ok fb h0
  rw [← na, ← nb]
  generalize partsB a = p at *
  generalize partsB b = q at *
  obtain ⟨hM, hM0, hM1, hE, hX, _⟩ := pa
  obtain ⟨hK, hK0, hK1, hF, hY, _⟩ := pb
  generalize qP a = M at *
  generalize sP a = X at *
  generalize qP b = K at *
  generalize sP b = Y at *
  refine Br.eF (by omega) ?_
  rw [hM, hK]
  refine Call.mk (lz64_ev M (by omega)) (Call.mk (lz64_ev K (by omega)) ⟨by omega, ?_⟩)
  obtain ⟨x1, x2, x3⟩ := top64 hM0 (show M < 18446744073709551616 by omega)
  obtain ⟨y1, y2, y3⟩ := top64 hK0 (show K < 18446744073709551616 by omega)
  generalize 64 - blen M = n at *
  generalize 64 - blen K = k at *
  refine Let.as _ (shl_top x2 x3) ⟨by omega, Let.as _ (shl_top y2 y3) ?_⟩
  obtain ⟨x, hx⟩ : ∃ x, x = M * 2 ^ n := ⟨_, rfl⟩
  obtain ⟨y, hy⟩ : ∃ y, y = K * 2 ^ k := ⟨_, rfl⟩
  rw [← hx] at x1 x2 ⊢
  rw [← hy] at y1 y2 ⊢
  have hxx : x / 2 * 18446744073709551616 + x * 9223372036854775808 % 18446744073709551616 = x * 9223372036854775808 := by omega
  refine Let.as ((x / 2 : Nat) : Int) (by rw [shrC]) (Let.as ((x * 9223372036854775808 % 18446744073709551616 : Nat) : Int) (by
    rw [show ((x : Int) * 2 ^ 63) = ((x * 9223372036854775808 : Nat) : Int) by rw [Int.natCast_mul]; rfl, wuN]) ?_)
  refine Call.mk (div64_ev _ _ y (by omega) (by omega) (by omega)) ?_
  rw [hxx]
  obtain ⟨N, hN⟩ : ∃ N, N = x * 9223372036854775808 / y := ⟨_, rfl⟩
  obtain ⟨R, hR⟩ : ∃ R, R = x * 9223372036854775808 % y := ⟨_, rfl⟩
  have hdm : y * N + R = x * 9223372036854775808 := by rw [hN, hR]; exact Nat.div_add_mod _ _
  have hRy : R < y := by rw [hR]; exact Nat.mod_lt _ (by omega)
  rw [← hN, ← hR]
  have hN2 : N < 18446744073709551616 := by
    rw [hN]; refine Nat.div_lt_of_lt_mul ?_
    have : 9223372036854775808 * 18446744073709551616 ≤ y * 18446744073709551616 := Nat.mul_le_mul_right _ y1
    omega
  have hN1 : 4611686018427387904 ≤ N := by
    rw [hN, Nat.le_div_iff_mul_le (by omega)]
    have : 9223372036854775808 * 9223372036854775808 ≤ x * 9223372036854775808 := Nat.mul_le_mul_right _ x1
    omega
  refine Let.as (p.E - n) (wi (by omega) (by omega)) (Let.as (q.E - k) (wi (by omega) (by omega)) (Let.as ((p.E - n) - (q.E - k)) (wi (by omega) (by omega)) (Let.as ((p.E - n) - (q.E - k) - 63) (wi (by omega) (by omega)) ?_)))
  have hU : K * 2 ^ (X + k + 1011 - n) * 2 ^ Y = K * 2 ^ Y * 2 ^ (X + k + 1011 - n) := by rw [Nat.mul_assoc, Nat.mul_comm (2 ^ _) (2 ^ Y), ← Nat.mul_assoc]
  -- both sides by the same power
  have hyU : y * 2 ^ (X + 1011 - n) = K * 2 ^ (X + k + 1011 - n) := by
    rw [hy, Nat.mul_assoc, ← Nat.pow_add]; congr 2; omega
  have hxA : x * 9223372036854775808 * 2 ^ (X + 1011 - n) = M * 2 ^ (X + 1074) := by
    rw [hx, show (9223372036854775808 : Nat) = 2 ^ 63 by decide, Nat.mul_assoc, Nat.mul_assoc, ← Nat.pow_add, ← Nat.pow_add]; congr 2; omega
  have hP := Nat.two_pow_pos (X + 1011 - n)
  refine Call.mk (round_ev (hi := 0) (lo := N) (N := N) (A := M * 2 ^ (X + 1074)) (B := K * 2 ^ Y) ⟨by omega, rfl, rfl, by decide, hN2, ?_, Nat.mul_pos (by omega) (Nat.two_pow_pos Y), ⟨K * 2 ^ (X + k + 1011 - n), Y, X + k + 1011 - n, hU, ?_, ?_, ?_, ?_⟩, fun _ => by omega⟩) rfl
  · show -10000 ≤ p.E - n - (q.E - k) - 63 ∧ p.E - n - (q.E - k) - 63 ≤ 10000; omega
  · show p.E - n - (q.E - k) - 63 + 1074 = _; omega
  · rw [← hyU, ← hxA, ← Nat.mul_assoc]
    refine Nat.mul_le_mul_right _ ?_
    rw [Nat.mul_comm N y]; omega
  · rw [← hyU, ← hxA, ← Nat.mul_assoc]
    refine Nat.mul_lt_mul_of_pos_right ?_ hP
    rw [Nat.add_mul, Nat.one_mul, Nat.mul_comm N y]; omega
  · show decide ((R : Int) > 0) = true ↔ _
    rw [decide_eq_true_iff, ← hyU, ← hxA, ← Nat.mul_assoc, Nat.mul_comm N y]
    constructor
    · intro h e
      have := Nat.eq_of_mul_eq_mul_right hP e
      omega
    · intro h
      by_cases c : R = 0
      · exact absurd (by rw [← hdm, c, Nat.add_zero]) h
      · omega
end Go.Sim.YtlkpbnhinnhlfaaGreat
