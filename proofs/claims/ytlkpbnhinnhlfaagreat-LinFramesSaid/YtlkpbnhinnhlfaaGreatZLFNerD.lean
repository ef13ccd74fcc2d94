/- What is proved: what intervals of floats hold: sums, products of points, negatives; amounts and norms bound what they hold. -/
import Derived.Test.YtlkpbnhinnhlfaaGreatZLFNerB
import Derived.Test.YtlkpbnhinnhlfaaGreatZLFFltD

namespace Go.Sim.YtlkpbnhinnhlfaaGreat
open Go.RowKit Go.Proofs Go.Proofs.Tryz
set_option exponentiation.threshold 5000
/-! ### The numbers of places -/
theorem inv_nat {n : Nat} (h : 0 < n) : 0 < ((n : Nat) : Rat)⁻¹ ∧ ((n : Nat) : Rat)⁻¹ * ((n : Nat) : Rat) = 1 := by
  have h0 : (0 : Rat) < (n : Rat) := by exact_mod_cast h
  exact ⟨Rat.inv_pos.2 h0, Rat.inv_mul_cancel _ (by intro e; rw [e] at h0; exact absurd h0 (by decide))⟩
theorem add_leQ {a b c d : Rat} (h : a ≤ b) (k : c ≤ d) : a + c ≤ b + d := by grind
/-- The least amount of a float. -/
def uQ : Rat := ((2 ^ 1074 : Nat) : Rat)⁻¹
theorem uQ_pos : 0 < uQ := (inv_nat (Nat.two_pow_pos 1074)).1
theorem uQ_mul : uQ * ((2 ^ 1074 : Nat) : Rat) = 1 := (inv_nat (Nat.two_pow_pos 1074)).2
def vQ (i : Int) : Rat := ((fV i : Int) : Rat) * uQ
theorem vQ_mono {i j : Int} (h : i ≤ j) : vQ i ≤ vQ j := by
  unfold vQ
  exact Rat.mul_le_mul_of_nonneg_right (by exact_mod_cast fV_mono h) (Rat.le_of_lt uQ_pos)
theorem vQ_le {i j : Int} (h : vQ i ≤ vQ j) : i ≤ j := by
  by_cases c : i ≤ j
  · exact c
  · have h1 := fV_lt (show j < i by omega)
    have h2 : ((fV j : Int) : Rat) * uQ < ((fV i : Int) : Rat) * uQ := Rat.mul_lt_mul_of_pos_right (by exact_mod_cast h1) uQ_pos
    unfold vQ at h
    exact absurd h (Rat.not_le.2 h2)
theorem vQ_neg (i : Int) : vQ (-i) = -vQ i := by unfold vQ; rw [fV_neg, Rat.intCast_neg, Rat.neg_mul]
theorem vQ_zero : vQ 0 = 0 := by unfold vQ; rw [show fV 0 = 0 by decide]; simp
/-- Not above, not below what a word tells. -/
def Lw (u : Rat) (b : Nat) : Prop := fI b ≤ -9218868437227405312 ∨ vQ (fI b) ≤ u
def Up (u : Rat) (b : Nat) : Prop := 9218868437227405312 ≤ fI b ∨ u ≤ vQ (fI b)
/-- An interval holds a number. -/
def InQ (u : Rat) (x : GIval) : Prop := RIp x ∧ Lw u x.Lo ∧ Up u x.Hi
theorem Lw.le {u : Rat} {b c : Nat} (h : Lw u b) (hc : fI c ≤ fI b) : Lw u c := by
  rcases h with h | h
  · exact .inl (by omega)
  · exact .inr (Rat.le_trans (vQ_mono hc) h)
theorem Up.le {u : Rat} {b c : Nat} (h : Up u b) (hc : fI b ≤ fI c) : Up u c := by
  rcases h with h | h
  · exact .inl (by omega)
  · exact .inr (Rat.le_trans h (vQ_mono hc))
theorem dp_Q {P : Int} {Q : Nat} (hQ : 0 < Q) : dp P Q = -9218868437227405312 ∨ fV (dp P Q) * Q ≤ P := by
  have h := dp_range P Q
  by_cases c : dp P Q = -9218868437227405312
  · exact .inl c
  · exact .inr ((le_dp hQ (by omega) h.2).1 (Int.le_refl _))
theorem addB_lo {a b : Nat} {u v : Rat} (hu : vQ (fI a) ≤ u) (hv : vQ (fI b) ≤ v) : Lw (u + v) (addB a b (-1)) := by
  unfold Lw
  rw [addB_rd, fI_rd_dn]
  rcases dp_Q (P := fV (fI a) + fV (fI b)) (Q := 1) (by decide) with h | h
  · exact .inl (by omega)
  · refine .inr (Rat.le_trans ?_ (add_leQ hu hv))
    unfold vQ
    rw [← Rat.add_mul]
    refine Rat.mul_le_mul_of_nonneg_right ?_ (Rat.le_of_lt uQ_pos)
    have h2 : fV (dp (fV (fI a) + fV (fI b)) 1) ≤ fV (fI a) + fV (fI b) := by simpa using h
    exact_mod_cast h2
theorem addB_up {a b : Nat} {u v : Rat} (hu : u ≤ vQ (fI a)) (hv : v ≤ vQ (fI b)) : Up (u + v) (addB a b 1) := by
  unfold Up
  rw [addB_rd, fI_rd_up (by decide)]
  rcases dp_Q (P := -(fV (fI a) + fV (fI b))) (Q := 1) (by decide) with h | h
  · exact .inl (by omega)
  · refine .inr (Rat.le_trans (add_leQ hu hv) ?_)
    unfold vQ
    rw [← Rat.add_mul]
    refine Rat.mul_le_mul_of_nonneg_right ?_ (Rat.le_of_lt uQ_pos)
    have h2 : fV (fI a) + fV (fI b) ≤ fV (-dp (-(fV (fI a) + fV (fI b))) 1) := by rw [fV_neg]; simp only [Int.natCast_one, Int.mul_one] at h; omega
    exact_mod_cast h2
theorem addX_lo {a b : Nat} (ha : NumB a) (hb : NumB b) (la : fI a < 9218868437227405312) (lb : fI b < 9218868437227405312) {u v : Rat} (hu : Lw u a) (hv : Lw v b) : Lw (u + v) (addX a b (-1)) := by
  unfold addX
  by_cases fa : isF a
  · rw [if_pos fa]
    by_cases fb : isF b
    · rw [if_pos fb]
      unfold isF at fa fb
      exact addB_lo (hu.resolve_left (by omega)) (hv.resolve_left (by omega))
    · rw [if_neg fb]; unfold isF at fb; have := hb.n; unfold isN at this; exact .inl (by omega)
  · rw [if_neg fa]; unfold isF at fa; have := ha.n; unfold isN at this; exact .inl (by omega)
theorem addX_up {a b : Nat} (ha : NumB a) (hb : NumB b) (la : -9218868437227405312 < fI a) (lb : -9218868437227405312 < fI b) {u v : Rat} (hu : Up u a) (hv : Up v b) : Up (u + v) (addX a b 1) := by
  unfold addX
  by_cases fa : isF a
  · rw [if_pos fa]
    by_cases fb : isF b
    · rw [if_pos fb]
      unfold isF at fa fb
      exact addB_up (hu.resolve_left (by omega)) (hv.resolve_left (by omega))
    · rw [if_neg fb]; unfold isF at fb; have := hb.n; unfold isN at this; exact .inl (by omega)
  · rw [if_neg fa]; unfold isF at fa; have := ha.n; unfold isN at this; exact .inl (by omega)
theorem clean_num {b : Nat} (hb : b < 18446744073709551616) (hn : isN b) : NumB (cleanB b) ∧ fI (cleanB b) = fI b := by
  unfold cleanB
  split
  · rename_i h
    exact ⟨NumB.zero, by have := rung_abs b; rw [h] at this; rw [show fI 0 = 0 by decide]; omega⟩
  · rename_i h
    refine ⟨⟨hb, hn, fun e => h (by rw [e]; decide)⟩, rfl⟩
theorem make_in {lo hi : Nat} (hl : lo < 18446744073709551616) (hh : hi < 18446744073709551616) (nl : isN lo) (nh : isN hi) (l1 : fI lo < 9218868437227405312) (h1 : -9218868437227405312 < fI hi) {u : Rat} (hu : Lw u lo) (hv : Up u hi) : InQ u (makeI lo hi) := by
  obtain ⟨c1, e1⟩ := clean_num hl nl
  obtain ⟨c2, e2⟩ := clean_num hh nh
  have hle : fI lo ≤ fI hi := by
    rcases hu with hu | hu
    · unfold isN at nh; omega
    · rcases hv with hv | hv
      · unfold isN at nl; omega
      · exact vQ_le (Rat.le_trans hu hv)
  have hr : RIp ⟨cleanB lo, cleanB hi⟩ := ⟨c1.n, c2.n, by show fI (cleanB lo) ≤ fI (cleanB hi); omega, by show fI (cleanB lo) < _; omega, by show _ < fI (cleanB hi); omega, c1.z, c2.z⟩
  have e : makeI lo hi = ⟨cleanB lo, cleanB hi⟩ := by
    unfold makeI
    rw [if_pos (by unfold rightB; rw [decide_eq_true_iff]; exact .inr hr)]
  rw [e]
  exact ⟨hr, hu.le (by show fI (cleanB lo) ≤ _; omega), hv.le (by show _ ≤ fI (cleanB hi); omega)⟩
theorem ends_in {lo hi : Nat} (hl : NumB lo) (hh : NumB hi) {u : Rat} (hu : Lw u lo) (hv : Up u hi) : InQ u (endsI lo hi) := by
  obtain ⟨m1, e1⟩ := hl.min num_max
  obtain ⟨m2, e2⟩ := hh.max num_min
  have k1 : fI 9218868437227405311 = 9218868437227405311 := by decide
  have k2 : fI 18442240474082181119 = -9218868437227405311 := by decide
  rw [k1] at e1
  rw [k2] at e2
  exact make_in m1.l m2.l m1.n m2.n (by omega) (by omega) (hu.le (by omega)) (hv.le (by omega))
theorem add_in {x y : GIval} (hx : okI x) (hy : okI y) {u v : Rat} (h : InQ u x) (k : InQ v y) : InQ (u + v) (addI x y) := by
  unfold addI
  rw [if_pos ⟨h.1, k.1⟩]
  have lx := RIp.lo hx h.1; have ly := RIp.lo hy k.1; have ux := RIp.hi hx h.1; have uy := RIp.hi hy k.1
  exact ends_in (lx.add ly _) (ux.add uy _) (addX_lo lx ly h.1.2.2.2.1 k.1.2.2.2.1 h.2.1 k.2.1) (addX_up ux uy h.1.2.2.2.2.1 k.1.2.2.2.2.1 h.2.2 k.2.2)
theorem neg_in {x : GIval} (hx : okI x) {u : Rat} (h : InQ u x) : InQ (-u) (negI x) := by
  unfold negI
  rw [if_pos h.1]
  have e1 := negW_I hx.1
  have e2 := negW_I hx.2
  refine make_in (negF_lt hx.2) (negF_lt hx.1) (negW_N hx.2 h.1.2.1) (negW_N hx.1 h.1.1) (by rw [e2]; have := h.1.2.2.2.2.1; omega) (by rw [e1]; have := h.1.2.2.2.1; omega) ?_ ?_
  · unfold Lw; rw [e2]
    rcases h.2.2 with h | h
    · exact .inl (by omega)
    · refine .inr ?_; rw [vQ_neg]; grind
  · unfold Up; rw [e1]
    rcases h.2.1 with h | h
    · exact .inl (by omega)
    · refine .inr ?_; rw [vQ_neg]; grind
theorem sub_in {x y : GIval} (hx : okI x) (hy : okI y) {u v : Rat} (h : InQ u x) (k : InQ v y) : InQ (u - v) (subI x y) := by
  have := add_in hx (ok_neg hy) h (neg_in hy k)
  rw [Rat.sub_eq_add_neg]; exact this
theorem pt_in {v : Nat} (hv : v < 18446744073709551616) (hf : isF v) : InQ (vQ (fI v)) (ptI v) := by
  have hf' := hf
  unfold isF at hf'
  exact make_in hv hv hf.n hf.n hf'.2 hf'.1 (.inr Rat.le_refl) (.inr Rat.le_refl)
theorem pt_ends {v : Nat} (hv : v < 18446744073709551616) (hf : isF v) : RIp (ptI v) ∧ (ptI v).Lo = cleanB v ∧ (ptI v).Hi = cleanB v := by
  obtain ⟨c1, e1⟩ := clean_num hv hf.n
  have hf' := hf
  unfold isF at hf'
  have hr : RIp ⟨cleanB v, cleanB v⟩ := ⟨c1.n, c1.n, Int.le_refl _, by show fI (cleanB v) < _; omega, by show _ < fI (cleanB v); omega, c1.z, c1.z⟩
  have e : ptI v = ⟨cleanB v, cleanB v⟩ := by
    unfold ptI makeI
    rw [if_pos (by unfold rightB; rw [decide_eq_true_iff]; exact .inr hr)]
  rw [e]; exact ⟨hr, rfl, rfl⟩
theorem mulX_Q {a b : Nat} (fa : isF a) (fb : isF b) : Lw (vQ (fI a) * vQ (fI b)) (mulX a b (-1)) ∧ Up (vQ (fI a) * vQ (fI b)) (mulX a b 1) := by
  have fz : ∀ {x : Nat}, rungB x = 0 → vQ (fI x) = 0 := fun {x} h => by
    have := rung_abs x; rw [h] at this
    rw [show fI x = 0 by omega, vQ_zero]
  unfold mulX
  by_cases hz : rungB a = 0 ∨ rungB b = 0
  · rw [if_pos hz, if_pos hz]
    have e : vQ (fI a) * vQ (fI b) = 0 := by rcases hz with h | h <;> rw [fz h] <;> simp
    rw [e]
    exact ⟨.inr (by rw [show fI 0 = 0 by decide, vQ_zero]; exact Rat.le_refl), .inr (by rw [show fI 0 = 0 by decide, vQ_zero]; exact Rat.le_refl)⟩
  · rw [if_neg hz, if_pos ⟨fa, fb⟩, if_neg hz, if_pos ⟨fa, fb⟩]
    have hu := uQ_mul
    have hp := uQ_pos
    have key : ∀ d P : Int, d * ((2 ^ 1074 : Nat) : Int) ≤ P → (d : Rat) * uQ ≤ (P : Rat) * uQ * uQ := fun d P h => by
      generalize (2 ^ 1074 : Nat) = N at h hu
      have h1 : (d : Rat) * (N : Rat) ≤ (P : Rat) := by exact_mod_cast h
      have h2 := Rat.mul_le_mul_of_nonneg_right (Rat.mul_le_mul_of_nonneg_right h1 (Rat.le_of_lt hp)) (Rat.le_of_lt hp)
      rw [Rat.mul_assoc (d : Rat), Rat.mul_comm (N : Rat) uQ, hu, Rat.mul_one] at h2
      exact h2
    have epr : vQ (fI a) * vQ (fI b) = ((fV (fI a) * fV (fI b) : Int) : Rat) * uQ * uQ := by
      unfold vQ; rw [Rat.intCast_mul]; grind
    have h0 : 0 < 2 ^ 1074 := Nat.two_pow_pos 1074
    rw [epr]
    constructor
    · unfold Lw
      rw [mulB_rd, fI_rd_dn]
      rcases dp_Q (P := fV (fI a) * fV (fI b)) h0 with h | h
      · exact .inl (by omega)
      · exact .inr (key _ _ h)
    · unfold Up
      rw [mulB_rd, fI_rd_up h0]
      rcases dp_Q (P := -(fV (fI a) * fV (fI b))) h0 with h | h
      · exact .inl (by omega)
      · refine .inr ?_
        have := key _ _ h
        rw [Rat.intCast_neg] at this
        rw [vQ_neg]
        unfold vQ
        grind
theorem mul_pt {a b : Nat} (ha : a < 18446744073709551616) (hb : b < 18446744073709551616) (fa : isF a) (fb : isF b) : InQ (vQ (fI a) * vQ (fI b)) (mulI (ptI a) (ptI b)) := by
  obtain ⟨r1, l1, h1⟩ := pt_ends ha fa
  obtain ⟨r2, l2, h2⟩ := pt_ends hb fb
  obtain ⟨c1, e1⟩ := clean_num ha fa.n
  obtain ⟨c2, e2⟩ := clean_num hb fb.n
  unfold mulI
  rw [if_pos ⟨r1, r2⟩]
  have q := mulX_Q (a := cleanB a) (b := cleanB b) (by unfold isF at fa ⊢; omega) (by unfold isF at fb ⊢; omega)
  rw [e1, e2] at q
  refine ends_in (num_loM _ _) (num_hiM _ _) (q.1.le ?_) (q.2.le ?_)
  · unfold loM
    rw [l1, l2, h1, h2]
    have n1 := (num_i0.min (NumB.mul (cleanB a) (cleanB b) (-1))).1
    have n2 := (n1.min (NumB.mul (cleanB a) (cleanB b) (-1))).1
    have n3 := (n2.min (NumB.mul (cleanB a) (cleanB b) (-1))).1
    have := (n3.min (NumB.mul (cleanB a) (cleanB b) (-1))).2
    omega
  · unfold hiM
    rw [l1, l2, h1, h2]
    have n1 := (num_i1.max (NumB.mul (cleanB a) (cleanB b) 1)).1
    have n2 := (n1.max (NumB.mul (cleanB a) (cleanB b) 1)).1
    have n3 := (n2.max (NumB.mul (cleanB a) (cleanB b) 1)).1
    have := (n3.max (NumB.mul (cleanB a) (cleanB b) 1)).2
    omega
/-! ### Sums of products, amounts -/
theorem zero_in : InQ 0 (makeI 0 0) := by
  have := pt_in (v := 0) (by decide) (by unfold isF; decide)
  rwa [show fI 0 = 0 by decide, vQ_zero] at this
theorem dot_in {n : Nat} {a b : Nat → GIval} {u v : Nat → Rat} (hm : ∀ k, k < n → InQ (u k * v k) (mulI (a k) (b k))) : InQ (sumQ (fun k => u k * v k) n) (dotI ((List.range n).map a) ((List.range n).map b)) := by
  unfold dotI
  rw [List.zip_map']
  induction n with
  | zero => exact zero_in
  | succ n ih =>
    rw [List.range_succ, List.map_append, List.foldl_append]
    have := ih (fun k hk => hm k (by omega))
    exact add_in (ok_dotF _ _ ok_zero) ok_mul this (hm n (by omega))
theorem v_one : vQ (fI 4607182418800017408) = 1 := by
  have : fV (fI 4607182418800017408) = ((2 ^ 1074 : Nat) : Int) := by
    rw [show fI 4607182418800017408 = ((1022 * 4503599627370496 + 4503599627370496 : Nat) : Int) by decide]
    unfold fV
    rw [if_pos (by omega), Int.toNat_natCast, fv_mk (by decide) (.inl (by decide)), show (4503599627370496 : Nat) = 2 ^ 52 by decide, ← Nat.pow_add]
  unfold vQ
  rw [this, Rat.intCast_natCast, Rat.mul_comm]
  exact uQ_mul
theorem eye_v (i j : Nat) : vQ (fI (oneV i j)) = eyeQ i j := by
  unfold oneV eyeQ
  split
  · exact v_one
  · rw [show fI 0 = 0 by decide, vQ_zero]
end Go.Sim.YtlkpbnhinnhlfaaGreat

/- What is proved: ulp.Div rounds the exact quotient. -/
namespace Go.Sim.YtlkpbnhinnhlfaaGreat
open Go.RowKit Go.Proofs Go.Proofs.Tryz
set_option exponentiation.threshold 5000
/-- The exact quotient's word. -/
def divB (a b : Nat) (dir : Int) : Nat := if rungB a = 0 then 0 else rnd (negB a != negB b) (qP a * 2 ^ (sP a + 1074)) (qP b * 2 ^ sP b) dir
end Go.Sim.YtlkpbnhinnhlfaaGreat

/- What is proved: what lin.Inverse yields, given what lin.nearly yields. -/
namespace Go.Sim.YtlkpbnhinnhlfaaGreat
open Go.RowKit Go.Proofs Go.Proofs.Tryz
set_option exponentiation.threshold 5000
/-- The unit matrix less a product of points. -/
def prodI (n : Nat) (r a : Nat → Nat → Nat) (i j : Nat) : GIval := dotI ((List.range n).map fun k => ptI (r i k)) ((List.range n).map fun k => ptI (a k j))
def gM (n : Nat) (r a : Nat → Nat → Nat) (i j : Nat) : GIval := subI (ptI (oneV i j)) (prodI n r a i j)
/-- How far it is from the unit matrix; that over what is left of 1. -/
def dlt (n : Nat) (r a : Nat → Nat → Nat) : Nat := normI (mkM n (gM n r a))
def rst (d : Nat) : Nat := addB 4607182418800017408 (Op.negFloat .f64 d) (-1)
def shr (d : Nat) : Nat := divB d (rst d) 1
theorem ptsI_mk {n : Nat} {f : Nat → Nat → Nat} : ptsI (mkM n f) = mkM n fun i j => ptI (f i j) := by rw [ptsI]; exact map_mkM
theorem okM_mk {n : Nat} (hn : n ≤ 24) {g : Nat → Nat → GIval} (hg : ∀ i j, i < n → j < n → okI (g i j)) : okM (mkM n g) := fun r hr => by
  obtain ⟨i, hi, rfl⟩ := mem_mkM hr
  refine ⟨fun x hx => ?_, by rw [rowM_len]; omega⟩
  obtain ⟨j, hj, rfl⟩ := mem_rowM hx
  exact hg i j hi hj
theorem matB_mk {n : Nat} (h1 : 1 ≤ n) (hn : n ≤ 24) {g : Nat → Nat → GIval} (hg : ∀ i j, i < n → j < n → rightB (g i j) = true) : matB (mkM n g) = true := by
  unfold matB
  rw [headD_mk h1, rowM_len, mkM_len]
  simp only [Bool.and_eq_true, List.all_eq_true, decide_eq_true_iff]
  refine ⟨fun r hr => ?_, h1, hn⟩
  obtain ⟨i, hi, rfl⟩ := mem_mkM hr
  rw [rowM_len]
  refine ⟨?_, rfl⟩
  unfold vecB
  rw [rowM_len]
  simp only [Bool.and_eq_true, List.all_eq_true, decide_eq_true_iff]
  refine ⟨fun x hx => ?_, h1, hn⟩
  obtain ⟨j, hj, rfl⟩ := mem_rowM hx
  exact hg i j hi hj
theorem mmI_mk {n : Nat} (h1 : 1 ≤ n) {f g : Nat → Nat → GIval} : mmI (mkM n f) (mkM n g) = mkM n fun i j => dotI ((List.range n).map (f i)) ((List.range n).map fun k => g k j) := by
  unfold mmI
  rw [headD_mk h1, rowM_len]
  unfold mkM
  rw [List.map_map]
  refine rowM_congr fun i _ => ?_
  unfold Function.comp rowI
  refine rowM_congr fun j hj => ?_
  congr 1
  unfold colI
  rw [List.map_map]
  refine rowM_congr fun k _ => ?_
  show List.getD _ j EMP = _
  exact getD_at' (rowM_get hj)
theorem rightB_of {x : GIval} (h : RIp x) : rightB x = true := by unfold rightB; rw [decide_eq_true_iff]; exact .inr h
section
variable {n : Nat} {r a : Nat → Nat → Nat}
theorem prod_in (hr : SqF n r) (ha : SqF n a) {i j : Nat} (hi : i < n) (hj : j < n) : InQ (mulQ (fun i k => vQ (fI (r i k))) (fun k j => vQ (fI (a k j))) n i j) (prodI n r a i j) :=
  dot_in (u := fun k => vQ (fI (r i k))) (v := fun k => vQ (fI (a k j))) fun k hk => mul_pt (hr.lt i k hi hk) (ha.lt k j hk hj) (hr.fin i k hi hk) (ha.fin k j hk hj)
theorem ok_prod (i j : Nat) : okI (prodI n r a i j) := ok_dotF _ _ ok_zero
theorem g_in (hr : SqF n r) (ha : SqF n a) {i j : Nat} (hi : i < n) (hj : j < n) : InQ (eyeQ i j - mulQ (fun i k => vQ (fI (r i k))) (fun k j => vQ (fI (a k j))) n i j) (gM n r a i j) := by
  refine sub_in (ok_pt (oneV_lt i j)) (ok_prod i j) ?_ (prod_in hr ha hi hj)
  rw [← eye_v]
  exact pt_in (oneV_lt i j) (oneV_F i j)
theorem ok_g (i j : Nat) : okI (gM n r a i j) := ok_sub (ok_pt (oneV_lt i j)) (ok_prod i j)
theorem nn_dlt (hn : n ≤ 24) : NN (dlt n r a) := nn_norm (okM_mk hn fun i j _ _ => ok_g i j)
end
end Go.Sim.YtlkpbnhinnhlfaaGreat

/- What is proved: a power of two, and that the unit matrix is straight. -/
namespace Go.Sim.YtlkpbnhinnhlfaaGreat
open Go.RowKit Go.Proofs Go.Proofs.Tryz
theorem ldexp20 : Ev_math_Ldexp 4607182418800017408 (-20) 4517110426252607488 := by
  have key : Ev_math_ldexp 4607182418800017408 (-20) 4517110426252607488 := by
    have n1 : Ev_math_normalize 4607182418800017408 (4607182418800017408, 0) := walk_math_normalize (by
      unfold W_math_normalize
      exact Call.mk (abs_ev (by decide)) (Br.f (by rw [fmt64, order_lt (by decide) (by decide)]; decide) rfl))
    have hand : bits .and .i64 (1023 : Int) 2047 = 1023 := by decide
    have hand2 : bits .andNot .u64 (4607182418800017408 : Int) (9218868437227405312 : Int) = 0 := by decide
    refine walk_math_ldexp ?_
    unfold W_math_ldexp
    refine Br.f (by rw [eq_zero (by decide)]; decide) (Call.mk (isInf0_ev (by decide)) (Br.dF (by decide) (Call.mk (isNaN_ev (by decide)) (Br.f (by decide) (Call.mk n1 ?_)))))
    refine Let.it (Call.mk (float64bits_ev _) (Let.as 1023 (by decide) (Let.as 1023 (by decide) (Let.as 1023 hand (Let.as 0 (by decide) (Let.as (-20) (by decide) ?_))))))
    refine Br.dF (by decide) (Br.dF (by decide) ⟨fun x m => x = -20 ∧ m = 4607182418800017408, Br.dF (by decide) ⟨rfl, rfl⟩, ?_⟩)
    rintro _ _ ⟨rfl, rfl⟩
    refine Let.as 0 hand2 (Let.as 1003 (by decide) (Let.as 1003 (by decide) (Let.as 4517110426252607488 (by decide) (Let.as 4517110426252607488 (by decide) (Call.mk (float64frombits_ev 4517110426252607488) ?_)))))
    exact ⟨4517110426252607488, by decide +kernel, rfl⟩
  exact walk_math_Ldexp (by unfold W_math_Ldexp; exact Call.mk key rfl)
theorem ival_ext {x y : GIval} (h : x.Lo = y.Lo ∧ x.Hi = y.Hi) : x = y := by
  cases x; cases y; obtain ⟨h1, h2⟩ := h; simp only at h1 h2; rw [h1, h2]
theorem mul00 : mulI (ptI 0) (ptI 0) = ptI 0 := ival_ext (by decide +kernel)
theorem mul01 : mulI (ptI 0) (ptI 4607182418800017408) = ptI 0 := ival_ext (by decide +kernel)
theorem mul10 : mulI (ptI 4607182418800017408) (ptI 0) = ptI 0 := ival_ext (by decide +kernel)
theorem mul11 : mulI (ptI 4607182418800017408) (ptI 4607182418800017408) = ptI 4607182418800017408 := ival_ext (by decide +kernel)
theorem add00 : addI (ptI 0) (ptI 0) = ptI 0 := ival_ext (by decide +kernel)
theorem add01 : addI (ptI 0) (ptI 4607182418800017408) = ptI 4607182418800017408 := ival_ext (by decide +kernel)
theorem add10 : addI (ptI 4607182418800017408) (ptI 0) = ptI 4607182418800017408 := ival_ext (by decide +kernel)
theorem sub00 : subI (ptI 0) (ptI 0) = ptI 0 := ival_ext (by decide +kernel)
theorem sub11 : subI (ptI 4607182418800017408) (ptI 4607182418800017408) = ptI 0 := ival_ext (by decide +kernel)
theorem sum0 : addX 0 (magI (ptI 0)) 1 = 0 := by decide +kernel
theorem max0 : fmaxB 0 0 = 0 := by decide +kernel
theorem unit_dot {i j : Nat} : ∀ n, dotI ((List.range n).map fun k => ptI (oneV k i)) ((List.range n).map fun k => ptI (oneV k j)) = ptI (if i = j ∧ i < n then 4607182418800017408 else 0)
  | 0 => by rw [if_neg (by omega)]; rfl
  | n + 1 => by
    have ih := unit_dot (i := i) (j := j) n
    unfold dotI at ih ⊢
    rw [List.zip_map'] at ih ⊢
    rw [List.range_succ, List.map_append, List.foldl_append, ih]
    show addI _ (mulI (ptI (oneV n i)) (ptI (oneV n j))) = _
    unfold oneV
    by_cases hi : n = i <;> by_cases hj : n = j
    · rw [if_pos hi, if_pos hj, mul11, if_neg (by omega), add01, if_pos (by omega)]
    · rw [if_pos hi, if_neg hj, mul10, if_neg (by omega), add00, if_neg (by omega)]
    · rw [if_neg hi, if_pos hj, mul01, if_neg (by omega), add00, if_neg (by omega)]
    · rw [if_neg hi, if_neg hj, mul00]
      by_cases h : i = j ∧ i < n
      · rw [if_pos h, add10, if_pos (by omega)]
      · rw [if_neg h, add00, if_neg (by omega)]
theorem unit_g {n i j : Nat} (hi : i < n) : gM n (fun i j => oneV j i) oneV i j = ptI 0 := by
  unfold gM prodI
  rw [unit_dot]
  unfold oneV
  by_cases h : i = j
  · rw [if_pos h, if_pos ⟨h, hi⟩, sub11]
  · rw [if_neg h, if_neg (fun c => h c.1), sub00]
theorem sum_rep (l : List GIval) (h : ∀ x ∈ l, x = ptI 0) : l.foldl sumF 0 = 0 := by
  induction l with
  | nil => rfl
  | cons x l ih =>
    rw [List.foldl_cons, h x (List.mem_cons_self ..)]
    unfold sumF
    rw [sum0]
    exact ih fun y hy => h y (List.mem_cons_of_mem _ hy)
theorem norm_rep (m : List (List GIval)) (h : ∀ r ∈ m, ∀ x ∈ r, x = ptI 0) : m.foldl maxF 0 = 0 := by
  induction m with
  | nil => rfl
  | cons r m ih =>
    rw [List.foldl_cons]
    unfold maxF sumN
    rw [sum_rep r (h r (List.mem_cons_self ..)), max0]
    exact ih fun y hy => h y (List.mem_cons_of_mem _ hy)
theorem unit_dlt (n : Nat) : dlt n (fun i j => oneV j i) oneV = 0 := by
  unfold dlt normI
  refine norm_rep _ fun r hr x hx => ?_
  obtain ⟨i, hi, rfl⟩ := mem_mkM hr
  obtain ⟨j, hj, rfl⟩ := mem_rowM hx
  exact unit_g hi
end Go.Sim.YtlkpbnhinnhlfaaGreat
