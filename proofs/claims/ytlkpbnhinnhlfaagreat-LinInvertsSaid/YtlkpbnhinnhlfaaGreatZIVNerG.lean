/- What is proved: the reference's numbers as quotients: floats, sums, products, negatives, determinants of few rows. -/
import Derived.Test.YtlkpbnhinnhlfaaGreatZIVNerF

namespace Go.Sim.YtlkpbnhinnhlfaaGreat
open Go.RowKit Go.Proofs Go.Proofs.Tryz
set_option exponentiation.threshold 5000
def sq1 (s : Bool) (m : Nat) : Rat := if s = true then -(m : Rat) else (m : Rat)
def rv (s : Bool) (m : Nat) (e : Int) : Rat := sq1 s m * (2 : Rat) ^ e
/-- A number of the reference: its value, its length, its exponent. -/
def NumV (x : Gref01Num) (q : Rat) (L E : Nat) : Prop := ∃ s m e, x = numZ s m e ∧ blen m ≤ L ∧ -(E : Int) ≤ e ∧ e ≤ E ∧ q = rv s m e ∧ (m = 0 → s = false)
theorem two_ne : (2 : Rat) ≠ 0 := by decide
theorem rv_zero (s : Bool) (e : Int) : rv s 0 e = 0 := by unfold rv sq1; split <;> simp
theorem NumV.mono {x : Gref01Num} {q : Rat} {L E L' E' : Nat} (h : NumV x q L E) (hL : L ≤ L') (hE : E ≤ E') : NumV x q L' E' := by
  obtain ⟨s, m, e, h1, h2, h3, h4, h5⟩ := h
  exact ⟨s, m, e, h1, by omega, by omega, by omega, h5⟩
theorem NumV.zero : NumV Gref01Num.zero 0 0 0 := ⟨false, 0, 0, by unfold numZ; rw [show dg 0 = [] from by unfold dg; rw [dig_zero]; rfl], by rw [blen_zero]; decide, by decide, by decide, (rv_zero _ _).symm, fun _ => rfl⟩
theorem blen_mul (m n : Nat) : blen (m * n) ≤ blen m + blen n := by
  rw [blen_le]
  by_cases h : n = 0
  · subst h; rw [Nat.mul_zero]; exact Nat.two_pow_pos _
  · rw [Nat.pow_add]
    exact Nat.mul_lt_mul_of_lt_of_le (blen_lt m) (Nat.le_of_lt (blen_lt n)) (Nat.two_pow_pos _)
theorem blen_add {m n k : Nat} (hm : blen m ≤ k) (hn : blen n ≤ k) : blen (m + n) ≤ k + 1 := by
  rw [blen_le] at hm hn ⊢
  rw [Nat.pow_succ]; omega
theorem NumV.prod {x y : Gref01Num} {q p : Rat} {L E L' E' : Nat} (h : NumV x q L E) (k : NumV y p L' E') (hL : L ≤ 100000) (hL' : L' ≤ 100000) (hE : E ≤ 1000000) (hE' : E' ≤ 1000000) : ∃ z, Ev_ref01_Product x y z ∧ NumV z (q * p) (L + L') (E + E') := by
  obtain ⟨s, m, e, rfl, h2, h3, h4, rfl, h6⟩ := h
  obtain ⟨t, n, f, rfl, k2, k3, k4, rfl, k6⟩ := k
  have d1 := dig_len_blen m
  have d2 := dig_len_blen n
  refine ⟨_, product_ev s t m n e f (by omega) (by omega) ⟨by omega, by omega⟩ ⟨by omega, by omega⟩, ?_⟩
  by_cases c : m * n = 0
  · rw [if_pos c]
    have e0 : rv s m e * rv t n f = 0 := by
      rcases Nat.mul_eq_zero.1 c with h | h <;> subst h <;> rw [rv_zero] <;> simp
    rw [e0]
    exact NumV.zero.mono (by omega) (by omega)
  · rw [if_neg c]
    refine ⟨_, _, _, rfl, Nat.le_trans (blen_mul m n) (by omega), by omega, by omega, ?_, fun h => absurd h c⟩
    unfold rv
    rw [Rat.zpow_add two_ne]
    have : sq1 (s != t) (m * n) = sq1 s m * sq1 t n := by
      unfold sq1
      rw [Rat.natCast_mul]
      cases s <;> cases t <;> simp <;> grind
    rw [this]; grind
theorem pow_shift {m : Nat} {e f : Int} (h : f ≤ e) : ((m * 2 ^ (e - f).toNat : Nat) : Rat) * (2 : Rat) ^ f = (m : Rat) * (2 : Rat) ^ e := by
  have h1 : (2 : Rat) ^ e = (2 : Rat) ^ (e - f) * (2 : Rat) ^ f := by rw [← Rat.zpow_add two_ne]; congr 1; omega
  have h2 : (2 : Rat) ^ (e - f) = ((2 ^ (e - f).toNat : Nat) : Rat) := by
    obtain ⟨k, hk⟩ : ∃ k : Nat, e - f = (k : Int) := ⟨(e - f).toNat, by omega⟩
    rw [hk, Int.toNat_natCast, Rat.zpow_natCast, Rat.natCast_pow]; rfl
  rw [h1, h2, Rat.natCast_mul]; grind
theorem blen_shift {m k L K : Nat} (h : blen m ≤ L) (hk : k ≤ K) : blen (m * 2 ^ k) ≤ L + K := Nat.le_trans (blen_mul_pow m k) (by omega)
theorem NumV.sum {x y : Gref01Num} {q p : Rat} {L E L' E' : Nat} (h : NumV x q L E) (k : NumV y p L' E') (hL : L ≤ 60000) (hL' : L' ≤ 60000) (hE : E ≤ 10000) (hE' : E' ≤ 10000) : ∃ z, Ev_ref01_Sum x y z ∧ NumV z (q + p) (L + L' + (E + E') + 1) (max E E') := by
  obtain ⟨s, m, e, rfl, h2, h3, h4, rfl, h6⟩ := h
  obtain ⟨t, n, f, rfl, k2, k3, k4, rfl, k6⟩ := k
  have d1 := dig_len_blen m
  have d2 := dig_len_blen n
  have c1 := dig_len_blen (m * 2 ^ (e - f).toNat)
  have c2 := dig_len_blen (n * 2 ^ (f - e).toNat)
  have b1 := blen_shift (K := E + E') h2 (show (e - f).toNat ≤ E + E' by omega)
  have b2 := blen_shift (K := E + E') k2 (show (f - e).toNat ≤ E + E' by omega)
  refine ⟨_, sum_ev01 s t m n e f (by omega) (by omega) (by omega) (by omega) ⟨by omega, by omega⟩ ⟨by omega, by omega⟩, ?_⟩
  clear c1 c2
  unfold sumZ
  by_cases hm : m = 0
  · subst hm
    rw [if_pos rfl, rv_zero, Rat.zero_add]
    exact ⟨t, n, f, rfl, by omega, by omega, by omega, rfl, k6⟩
  rw [if_neg hm]
  by_cases hn : n = 0
  · subst hn
    rw [if_pos rfl, rv_zero, Rat.add_zero]
    exact ⟨s, m, e, rfl, by omega, by omega, by omega, rfl, h6⟩
  rw [if_neg hn]
  -- both with the less of the exponents
  have r1 : ∀ s, rv s m e = sq1 s (m * 2 ^ (e - f).toNat) * (2 : Rat) ^ (min e f) := fun s => by
    have := pow_shift (m := m) (e := e) (f := min e f) (by omega)
    rw [show e - min e f = (((e - f).toNat : Nat) : Int) by omega, Int.toNat_natCast] at this
    unfold rv sq1
    split <;> grind
  have r2 : ∀ t, rv t n f = sq1 t (n * 2 ^ (f - e).toNat) * (2 : Rat) ^ (min e f) := fun t => by
    have := pow_shift (m := n) (e := f) (f := min e f) (by omega)
    rw [show f - min e f = (((f - e).toNat : Nat) : Int) by omega, Int.toNat_natCast] at this
    unfold rv sq1
    split <;> grind
  have hM0 : m * 2 ^ (e - f).toNat ≠ 0 := Nat.mul_ne_zero hm (Nat.ne_of_gt (Nat.two_pow_pos _))
  have hK0 : n * 2 ^ (f - e).toNat ≠ 0 := Nat.mul_ne_zero hn (Nat.ne_of_gt (Nat.two_pow_pos _))
  rw [r1, r2]
  generalize m * 2 ^ (e - f).toNat = M at *
  generalize n * 2 ^ (f - e).toNat = K at *
  by_cases hst : s = t
  · rw [if_pos hst]
    subst hst
    refine ⟨s, M + K, min e f, rfl, ?_, by omega, by omega, ?_, fun h => by omega⟩
    · exact Nat.le_trans (blen_add (k := L + L' + (E + E')) (by omega) (by omega)) (by omega)
    · unfold rv sq1; rw [Rat.natCast_add]; split <;> grind
  rw [if_neg hst]
  by_cases hMK : M = K
  · rw [if_pos hMK]
    have e0 : sq1 s M * (2 : Rat) ^ (min e f) + sq1 t K * (2 : Rat) ^ (min e f) = 0 := by
      subst hMK; unfold sq1
      cases s <;> cases t <;> simp_all <;> grind
    rw [e0]
    exact NumV.zero.mono (by omega) (by omega)
  rw [if_neg hMK]
  have sub : ∀ {a b : Nat}, b < a → ((a - b : Nat) : Rat) = (a : Rat) - (b : Rat) := fun {a b} h => by
    have h1 : ((a - b + b : Nat) : Rat) = (a : Rat) := by congr 1; omega
    rw [Rat.natCast_add] at h1; grind
  by_cases hlt : K < M
  · rw [if_pos hlt]
    refine ⟨s, M - K, min e f, rfl, Nat.le_trans (blen_mono (Nat.sub_le M K)) (by omega), by omega, by omega, ?_, fun h => by omega⟩
    unfold rv sq1; rw [sub hlt]
    cases s <;> cases t <;> simp_all <;> grind
  · rw [if_neg hlt]
    refine ⟨t, K - M, min e f, rfl, Nat.le_trans (blen_mono (Nat.sub_le K M)) (by omega), by omega, by omega, ?_, fun h => by omega⟩
    unfold rv sq1; rw [sub (show M < K by omega)]
    cases s <;> cases t <;> simp_all <;> grind
theorem NumV.minus {x : Gref01Num} {q : Rat} {L E : Nat} (h : NumV x q L E) : ∃ z, Ev_ref01_Minus x z ∧ NumV z (-q) L E := by
  obtain ⟨s, m, e, rfl, h2, h3, h4, rfl, h6⟩ := h
  cases s with
  | true => exact ⟨numZ false m e, walk_ref01_Minus (by unfold W_ref01_Minus; exact Br.f rfl rfl), false, m, e, rfl, h2, h3, h4, by unfold rv sq1; simp; grind, fun _ => rfl⟩
  | false =>
    refine ⟨numZ (decide (((dg m).length : Int) > 0)) m e, walk_ref01_Minus (by unfold W_ref01_Minus; exact Br.t rfl rfl), _, m, e, rfl, h2, h3, h4, ?_, fun h => decide_eq_false (by have := (dg_len0 m).2 h; omega)⟩
    by_cases c : m = 0
    · subst c; rw [rv_zero, rv_zero]; rfl
    · have : ¬ (((dg m).length : Nat) : Int) = 0 := fun h => c ((dg_len0 m).1 h)
      rw [decide_eq_true (by omega)]
      unfold rv sq1; simp; grind
theorem NumV.sign {x : Gref01Num} {q : Rat} {L E : Nat} (h : NumV x q L E) : ∃ z, Ev_ref01_Sign x z ∧ (q ≠ 0 → z ≠ 0) := by
  obtain ⟨s, m, e, rfl, h2, h3, h4, rfl, h6⟩ := h
  refine ⟨_, sign_ev s m e, fun hq => ?_⟩
  unfold sgS
  by_cases c : m = 0
  · subst c; exact absurd (rv_zero s e) hq
  · rw [if_neg c]; split <;> decide
/-- A float's number. -/
theorem NumV.flt {b : Nat} (hf : isF b) : NumV (fltZ b) (vQ (fI b)) 53 1074 := by
  unfold fltZ
  have hr := isF_rung.1 hf
  by_cases h0 : rungB b = 0
  · rw [if_pos h0]
    have := rung_abs b
    rw [show fI b = 0 by omega, vQ_zero]
    exact ⟨false, 0, 0, rfl, by rw [blen_zero]; decide, by decide, by decide, (rv_zero _ _).symm, fun _ => rfl⟩
  · rw [if_neg h0]
    have hs : sP b ≤ 2045 := by unfold sP; omega
    refine ⟨negB b, qP b, (sP b : Int) - 1074, rfl, (blen_le _ _).2 (by have := qP_lt b; simpa using this), by omega, by omega, ?_, fun h => by have h1 := fv_qs b; have h2 := fv_lt (r := 0) (t := rungB b) (by omega); rw [h, Nat.zero_mul] at h1; omega⟩
    unfold vQ rv
    rw [← sgn_fV b, Int.sub_eq_add_neg, Rat.zpow_add two_ne, Rat.zpow_neg, Rat.zpow_natCast]
    have e1 : ((2 : Rat) ^ (1074 : Int))⁻¹ = uQ := by
      unfold uQ
      congr 1
    rw [e1]
    clear e1
    have e3 : (((qP b * 2 ^ sP b : Nat) : Int) : Rat) = (qP b : Rat) * (2 : Rat) ^ sP b := by
      rw [Rat.intCast_natCast, Rat.natCast_mul, Rat.natCast_pow]; rfl
    have e2 : ((sgn (negB b) (qP b * 2 ^ sP b) : Int) : Rat) = sq1 (negB b) (qP b) * (2 : Rat) ^ sP b := by
      unfold sgn sq1
      generalize (qP b * 2 ^ sP b : Nat) = Z at e3
      split
      · rw [Rat.intCast_neg, e3, Rat.neg_mul]
      · exact e3
    rw [e2, Rat.mul_assoc]
end Go.Sim.YtlkpbnhinnhlfaaGreat

/- What is proved: the reference's determinant of at most three rows; where it is nought, or two rows are one, something that is not nought is taken to nought. -/
namespace Go.Sim.YtlkpbnhinnhlfaaGreat
open Go.RowKit Go.Proofs Go.Proofs.Tryz
/-- A matrix without its first row and a column. -/
def minor {α : Type} (f : Nat → Nat → α) (j : Nat) : Nat → Nat → α := fun i c => f (i + 1) (if c < j then c else c + 1)
theorem range_skip {α : Type} (h : Nat → α) {j n : Nat} (hj : j ≤ n) : ((List.range n).map fun c => h (if c < j then c else c + 1)) = ((List.range (n + 1)).filter (fun c => decide (c ≠ j))).map h := by
  induction n with
  | zero =>
    have : j = 0 := by omega
    subst this; simp
  | succ n ih =>
    by_cases c : j = n + 1
    · subst c
      have e1 : (List.range (n + 1)).filter (fun c => decide (c ≠ n + 1)) = List.range (n + 1) := List.filter_eq_self.2 fun x hx => by have := List.mem_range.1 hx; simp; omega
      rw [List.range_succ (n := n + 1), List.filter_append, e1, List.filter_cons, if_neg (by simp), List.filter_nil, List.append_nil]
      refine List.map_congr_left fun x hx => ?_
      have := List.mem_range.1 hx
      rw [if_pos (by omega)]
    · rw [List.range_succ, List.map_append, List.range_succ (n := n + 1), List.filter_append, List.map_append, ih (by omega)]
      congr 1
      rw [List.filter_cons, if_pos (by simp; omega)]
      simp only [List.map_cons, List.map_nil, List.filter_nil, List.cons.injEq, and_true]
      rw [if_neg (by omega)]
theorem without_ev {n : Nat} (hn : n ≤ 23) {f : Nat → Nat → Gref01Num} {j : Nat} (hj : j ≤ n) : Ev_ref04_without (mkM (n + 1) f) 0 (j : Int) (mkM n (minor f j)) := by
  refine walk_ref04_without ?_
  unfold W_ref04_without
  rw [mkM_len]
  refine Loop2.up (n + 1) (fun i out => out = ((List.range (i - 1)).map fun a => (List.range n).map (minor f j a))) rfl ?_
  rintro i out k hi rfl hk
  refine Br.d (fun hlt => At.nat (by rw [mkM_len]; omega) fun r hr => ?_) (fun hge => ?_)
  · rw [mkM_get (by omega)] at hr
    cases hr
    refine Br.e (fun h0 => Let.as _ (wi1 (by omega)) (hk _ (by omega) ?_)) (fun h0 => ?_)
    · have : i = 0 := by omega
      subst this; rfl
    · obtain ⟨m, rfl⟩ : ∃ m, i = m + 1 := ⟨i - 1, by omega⟩
      rw [rowM_len]
      refine Loop2.up (n + 1) (fun c row => row = ((List.range c).filter (fun c => decide (c ≠ j))).map (f (m + 1))) (by simp) ?_
      rintro c row k2 hc rfl hk2
      have hfl := List.length_filter_le (fun c => decide (c ≠ j)) (List.range c)
      rw [List.length_range] at hfl
      refine Br.d (fun hlt2 => At.nat (by rw [rowM_len]; omega) fun x hx => ?_) (fun hge2 => ?_)
      · rw [rowM_get (by omega)] at hx
        cases hx
        refine ⟨fun hne => App.le (by omega) (by simp only [List.length_map, List.length_singleton]; omega) (Let.as _ (wi1 (by omega)) (hk2 _ (by omega) ?_)), fun he => Let.as _ (wi1 (by omega)) (hk2 _ (by omega) ?_)⟩
        · have : c ≠ j := by
            intro e; subst e; simp at hne
          rw [List.range_succ, List.filter_append, List.map_append, List.filter_cons, if_pos (by simpa using this)]; rfl
        · have : c = j := by
            by_cases e : c = j
            · exact e
            · exfalso; have : ((c : Int) != (j : Int)) = true := by simp; omega
              rw [this] at he; cases he
          rw [List.range_succ, List.filter_append, List.map_append, List.filter_cons, if_neg (by simpa using this)]; simp
      · have : c = n + 1 := by omega
        subst this
        refine App.le (by omega) (by simp; omega) (Let.as _ (wi1 (by omega)) (hk _ (by omega) ?_))
        rw [show m + 1 + 1 - 1 = m + 1 by omega, List.range_succ (n := m), List.map_append, show m + 1 - 1 = m by omega]
        congr 1
        simp only [List.map_cons, List.map_nil, List.cons.injEq, and_true]
        exact (range_skip (f (m + 1)) hj).symm
  · have : i = n + 1 := by omega
    subst this
    rfl
def sgQ (j : Nat) : Rat := if j % 2 = 1 then -1 else 1
/-- The determinant, along the first row. -/
def detN : Nat → (Nat → Nat → Rat) → Rat
  | 0, _ => 1
  | k + 1, f => sumQ (fun j => sgQ j * (f 0 j * detN k (minor f j))) (k + 1)
def LB : Nat → Nat
  | 0 => 1
  | k + 1 => (k + 1) * (54 + LB k + 2148 * (k + 1))
theorem det_ev : ∀ (k : Nat), k ≤ 3 → ∀ {g : Nat → Nat → Gref01Num} {f : Nat → Nat → Rat}, (∀ i j, i < k → j < k → NumV (g i j) (f i j) 53 1074) → ∃ d, Ev_ref04_Det (mkM k g) d ∧ NumV d (detN k f) (LB k) (1074 * k)
  | 0, _, g, f, _ => ⟨numZ false 1 0, walk_ref04_Det (by unfold W_ref04_Det; exact Br.eT rfl (Call.mk int_one rfl)), false, 1, 0, rfl, (blen_le 1 1).2 (by decide), by decide, by decide, by unfold detN rv sq1; simp, fun h => by omega⟩
  | k + 1, hk, g, f, hg => by
    have ih := fun (j : Nat) (hj : j < k + 1) => det_ev k (by omega) (g := minor g j) (f := minor f j) (fun i c hi hc => by
      unfold minor
      exact hg _ _ (by omega) (by split <;> omega))
    have hLB : LB k ≤ 15000 := by
      have : k = 0 ∨ k = 1 ∨ k = 2 := by omega
      rcases this with rfl | rfl | rfl <;> simp [LB]
    suffices H : ∀ M W E E', M ≤ 15000 → E' ≤ 2148 → E = 1074 + E' → W = 54 + M + 2 * E → (∀ (j : Nat), j < k + 1 → ∃ d, Ev_ref04_Det (mkM k (minor g j)) d ∧ NumV d (detN k (minor f j)) M E') →
        ∃ d, Ev_ref04_Det (mkM (k + 1) g) d ∧ NumV d (detN (k + 1) f) ((k + 1) * W) E from
      H (LB k) (54 + LB k + 2148 * (k + 1)) (1074 * (k + 1)) (1074 * k) hLB (Nat.mul_le_mul_left 1074 (show k ≤ 2 by omega)) (by rw [Nat.mul_succ, Nat.add_comm]) (by rw [← Nat.mul_assoc]) ih
    clear ih hLB
    intro M W E E' hLB hE' hE hW ih
    -- the sums on the way
    have step : ∀ i, i ≤ k + 1 → ∃ s : Nat → Gref01Num, s 0 = Gref01Num.zero ∧ (∀ j, j ≤ i → NumV (s j) (sumQ (fun j => sgQ j * (f 0 j * detN k (minor f j))) j) (j * W) E) ∧
        ∀ j, j < i → ∃ d p q, Ev_ref04_Det (mkM k (minor g j)) d ∧ Ev_ref01_Product (g 0 j) d p ∧ (if j % 2 = 1 then Ev_ref01_Minus p q else q = p) ∧ Ev_ref01_Sum (s j) q (s (j + 1)) := by
      intro i
      induction i with
      | zero => intro _; exact ⟨fun _ => Gref01Num.zero, rfl, fun j hj => by
          have : j = 0 := by omega
          subst this
          exact NumV.zero.mono (Nat.zero_le _) (Nat.zero_le _), fun j hj => by omega⟩
      | succ i ihi =>
        intro hi
        obtain ⟨s, s0, s1, s2⟩ := ihi (by omega)
        obtain ⟨d, d1, d2⟩ := ih i (by omega)
        obtain ⟨p, p1, p2⟩ := (hg 0 i (by omega) (by omega)).prod d2 (by omega) (by omega) (by omega) (by omega)
        obtain ⟨q, q1, q2⟩ : ∃ q, (if i % 2 = 1 then Ev_ref01_Minus p q else q = p) ∧ NumV q (sgQ i * (f 0 i * detN k (minor f i))) (53 + M) (1074 + E') := by
          unfold sgQ
          by_cases c : i % 2 = 1
          · obtain ⟨q, q1, q2⟩ := p2.minus
            exact ⟨q, by rw [if_pos c]; exact q1, by rw [if_pos c, Rat.neg_mul, Rat.one_mul]; exact q2⟩
          · exact ⟨p, by rw [if_neg c], by rw [if_neg c, Rat.one_mul]; exact p2⟩
        have hs := s1 i (Nat.le_refl _)
        have hb : i * W ≤ 60000 := by
          have h1 : i * W ≤ 2 * W := Nat.mul_le_mul_right _ (by omega)
          omega
        obtain ⟨z, z1, z2⟩ := hs.sum q2 hb (by omega) (by omega) (by omega)
        refine ⟨fun j => if j ≤ i then s j else z, by simp [s0], fun j hj => ?_, fun j hj => ?_⟩
        · by_cases c : j ≤ i
          · simp only [if_pos c]; exact s1 j c
          · have : j = i + 1 := by omega
            subst this
            simp only [if_neg c]
            refine z2.mono ?_ (by omega)
            rw [Nat.add_mul, Nat.one_mul]; omega
        · by_cases c : j < i
          · obtain ⟨d, p, q, k1, k2, k3, k4⟩ := s2 j c
            refine ⟨d, p, q, k1, k2, k3, ?_⟩
            simp only [if_pos (show j ≤ i by omega), if_pos (show j + 1 ≤ i by omega)]; exact k4
          · have : j = i := by omega
            subst this
            refine ⟨d, p, q, d1, p1, q1, ?_⟩
            simp only [if_pos (Nat.le_refl j), if_neg (show ¬ j + 1 ≤ j by omega)]; exact z1
    obtain ⟨s, s0, s1, s2⟩ := step (k + 1) (Nat.le_refl _)
    refine ⟨s (k + 1), walk_ref04_Det ?_, (s1 (k + 1) (Nat.le_refl _)).mono (Nat.le_refl _) (Nat.le_refl _)⟩
    unfold W_ref04_Det
    rw [mkM_len]
    refine Br.eF (by omega) (At.nat (i := 0) (by rw [mkM_len]; omega) fun r hr => ?_)
    rw [mkM_get (by omega)] at hr
    cases hr
    rw [rowM_len]
    refine Loop2.up (k + 1) (fun i t => t = s i) s0.symm ?_
    rintro i t kk hi rfl hkk
    refine Br.d (fun hlt => At.nat (by rw [rowM_len]; omega) fun x hx => ?_) (fun hge => ?_)
    · rw [rowM_get (by omega)] at hx
      cases hx
      obtain ⟨d, p, q, k1, k2, k3, k4⟩ := s2 i (by omega)
      refine Call.mk (without_ev (by omega) (by omega)) (Call.mk k1 (Call.mk k2 (Let.as ((i % 2 : Nat) : Int) (by rw [Int.tmod_eq_emod_of_nonneg (by omega)]; omega) ⟨fun y => y = q, ?_, ?_⟩)))
      · by_cases c : i % 2 = 1
        · rw [if_pos c] at k3
          exact Br.eT (by omega) (Call.mk k3 rfl)
        · rw [if_neg c] at k3
          exact Br.eF (by omega) k3.symm
      · rintro _ rfl
        exact Call.mk k4 (Let.as _ (wi1 (by omega)) (hkk _ (by omega) rfl))
    · have : i = k + 1 := by omega
      subst this; rfl
theorem nums_ev {n : Nat} (hn : n ≤ 24) {a : Nat → Nat → Nat} (ha : SqF n a) : Ev_ref04_Nums (mkM n a) (mkM n fun i j => fltZ (a i j)) := by
  refine walk_ref04_Nums ?_
  unfold W_ref04_Nums
  rw [mkM_len]
  refine Loop2.up n (fun i out => out = (List.range i).map fun i => (List.range n).map fun j => fltZ (a i j)) rfl ?_
  rintro i out k hi rfl hk
  refine Br.d (fun hlt => At.nat (by rw [mkM_len]; omega) fun r hr => ?_) (fun hge => ?_)
  · have hin : i < n := by omega
    rw [mkM_get hin] at hr
    cases hr
    rw [rowM_len]
    refine Loop2.up n (fun j row => row = (List.range j).map fun j => fltZ (a i j)) rfl ?_
    rintro j row k2 hj rfl hk2
    refine Br.d (fun hlt2 => At.nat (by rw [rowM_len]; omega) fun x hx => ?_) (fun hge2 => ?_)
    · rw [rowM_get (by omega)] at hx
      cases hx
      refine Call.mk (float_ev (ha.lt i j hin (by omega)) (ha.fin i j hin (by omega))) (App.le (by omega) (by simp; omega) (Let.as _ (wi1 (by omega)) (hk2 _ (by omega) ?_)))
      rw [List.range_succ, List.map_append]; rfl
    · have : j = n := by omega
      subst this
      refine App.le (by omega) (by simp; omega) (Let.as _ (wi1 (by omega)) (hk _ (by omega) ?_))
      rw [List.range_succ (n := i), List.map_append]; rfl
  · have : i = n := by omega
    subst this; rfl
end Go.Sim.YtlkpbnhinnhlfaaGreat
