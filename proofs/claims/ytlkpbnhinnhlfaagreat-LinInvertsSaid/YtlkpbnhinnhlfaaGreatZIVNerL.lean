/- What is proved: the reference's test of an interval and a quotient lets a quotient pass that the interval holds. -/
import Derived.Test.YtlkpbnhinnhlfaaGreatZIVNerJ
import Derived.Test.YtlkpbnhinnhlfaaGreatZIVWNh
import Derived.Test.YtlkpbnhinnhlfaaGreatZIVMatK
import Derived.Test.YtlkpbnhinnhlfaaGreatZIVNerG
import Derived.Test.YtlkpbnhinnhlfaaGreatZIVWF5

namespace Go.Sim.YtlkpbnhinnhlfaaGreat
open Go.RowKit Go.Proofs Go.Proofs.Tryz
set_option exponentiation.threshold 5000
theorem pow_posQ (e : Int) : (0 : Rat) < (2 : Rat) ^ e := Rat.zpow_pos (by decide)
theorem rv_val (s : Bool) (m : Nat) {e : Int} {K : Nat} (h : -(K : Int) ≤ e) : rv s m e = ((valS s (m * 2 ^ (e + (K : Int)).toNat) : Int) : Rat) * (2 : Rat) ^ (-(K : Int)) := by
  have h1 := pow_shift (m := m) (e := e) (f := -(K : Int)) h
  rw [show e - -(K : Int) = e + (K : Int) by omega] at h1
  unfold rv sq1 valS
  generalize m * 2 ^ (e + (K : Int)).toNat = M at *
  split
  · rw [Rat.intCast_neg, Rat.intCast_natCast]; grind
  · rw [Rat.intCast_natCast]; exact h1.symm
theorem rv_leK {s t : Bool} {m n : Nat} {e f : Int} {K : Nat} (he : -(K : Int) ≤ e) (hf : -(K : Int) ≤ f) (h : rv s m e ≤ rv t n f) : valS s (m * 2 ^ (e + (K : Int)).toNat) ≤ valS t (n * 2 ^ (f + (K : Int)).toNat) := by
  rw [rv_val s m he, rv_val t n hf] at h
  exact Rat.intCast_le_intCast.1 (Rat.le_of_mul_le_mul_right h (pow_posQ _))
theorem rv_le {s t : Bool} {m n : Nat} {e f : Int} (he : -20000 ≤ e) (hf : -20000 ≤ f) (h : rv s m e ≤ rv t n f) : valY s m e ≤ valY t n f := by
  have := rv_leK (K := 20000) (by omega) (by omega) h
  unfold valY amtY
  rw [show (20000 : Int) = ((20000 : Nat) : Int) from rfl]
  exact this
theorem dig_lenB (n : Nat) : 32 * (dig n).length ≤ blen n + 32 := by
  by_cases h : n = 0
  · subst h; rw [dig_zero]; exact Nat.zero_le _
  · obtain ⟨m, d, h1, h2, h3, h4, h5⟩ := dig_split h
    rw [h1, List.length_append, List.length_singleton]; omega
theorem NumV.order {x y : Gref01Num} {q p : Rat} {L E L' E' : Nat} (h : NumV x q L E) (k : NumV y p L' E') (hL : L ≤ 200000) (hL' : L' ≤ 200000) (hE : E ≤ 20000) (hE' : E' ≤ 20000) :
    ∃ z, Ev_ref01_Order x y z ∧ (q ≤ p → z ≤ 0) ∧ (p ≤ q → 0 ≤ z) := by
  obtain ⟨s, m, e, rfl, h2, h3, h4, rfl, h6⟩ := h
  obtain ⟨t, n, f, rfl, k2, k3, k4, rfl, k6⟩ := k
  have d1 := dig_lenB m
  have d2 := dig_lenB n
  refine ⟨_, order_evY h6 k6 (by omega) (by omega) ⟨by omega, by omega⟩ ⟨by omega, by omega⟩, fun h => ?_, fun h => ?_⟩
  · have := rv_le (by omega) (by omega) h
    generalize valY s m e = a at *
    generalize valY t n f = b at *
    unfold sgnS
    split <;> (try split) <;> omega
  · have := rv_le (by omega) (by omega) h
    generalize valY s m e = a at *
    generalize valY t n f = b at *
    unfold sgnS
    split <;> (try split) <;> omega
theorem NumV.sign2 {x : Gref01Num} {q : Rat} {L E : Nat} (h : NumV x q L E) : ∃ z, Ev_ref01_Sign x z ∧ (z < 0 ↔ q < 0) ∧ (z = 0 ↔ q = 0) := by
  obtain ⟨s, m, e, rfl, h2, h3, h4, rfl, h6⟩ := h
  refine ⟨_, sign_ev s m e, ?_⟩
  have hp := pow_posQ e
  unfold sgS rv sq1
  by_cases c : m = 0
  · subst c; rw [if_pos rfl]
    have : (if s = true then -((0 : Nat) : Rat) else ((0 : Nat) : Rat)) * (2 : Rat) ^ e = 0 := by split <;> simp
    rw [this]; decide
  · rw [if_neg c]
    have hm : (0 : Rat) < (m : Rat) := by exact_mod_cast Nat.pos_of_ne_zero c
    have := Rat.mul_pos hm hp
    cases s with
    | true =>
      rw [if_pos rfl, if_pos rfl, Rat.neg_mul]
      constructor <;> constructor <;> intro h <;> first | omega | grind
    | false =>
      rw [if_neg (by decide), if_neg (by decide)]
      constructor <;> constructor <;> intro h <;> first | omega | grind
theorem holds_quot {x : GIval} (hx : okI x) {a b : Gref01Num} {p q v : Rat} (ha : NumV a p 60000 10000) (hb : NumV b q 60000 10000) (h0 : q ≠ 0) (hv : p = v * q) (hin : InQ v x) : Ev_ref04_HoldsQuotient x a b true := by
  refine walk_ref04_HoldsQuotient ?_
  unfold W_ref04_HoldsQuotient
  have hN : noneB x = false := by unfold noneB; rw [decide_eq_true hin.1]; rfl
  refine Call.mk (refnone_ev hx) (Br.f hN ?_)
  obtain ⟨z, z1, z2, -⟩ := hb.sign2
  refine Call.mk z1 ⟨fun a b => ∃ p q : Rat, NumV a p 60000 10000 ∧ NumV b q 60000 10000 ∧ 0 < q ∧ p = v * q, ?_, ?_⟩
  · refine Br.d (fun h => ?_) (fun h => ?_)
    · have hq := z2.1 h
      obtain ⟨a', a1, a2⟩ := ha.minus
      obtain ⟨b', b1, b2⟩ := hb.minus
      exact Call.mk a1 (Call.mk b1 ⟨_, _, a2, b2, by grind, by grind⟩)
    · have hq : ¬ q < 0 := fun c => h (z2.2 c)
      exact ⟨_, _, ha, hb, by grind, hv⟩
  clear ha hb h0 hv z1 z2
  rintro a b ⟨p, q, ha, hb, h0, hv⟩
  refine ⟨fun t => t = true, ?_, ?_⟩
  · refine Call.mk (reffinite_ev hx.1) ⟨fun _ => rfl, fun hf => ?_⟩
    have hF : isF x.Lo := by simpa using hf
    have hl : vQ (fI x.Lo) ≤ v := hin.2.1.resolve_left (by unfold isF at hF; omega)
    obtain ⟨w, w1, w2⟩ := (NumV.flt hF).prod hb (by omega) (by omega) (by omega) (by omega)
    obtain ⟨o, o1, o2, o3⟩ := w2.order ha (by omega) (by omega) (by omega) (by omega)
    refine Call.mk (float_ev hx.1 hF) (Call.mk w1 (Call.mk o1 ?_))
    have := o2 (by rw [hv]; exact Rat.mul_le_mul_of_nonneg_right hl (Rat.le_of_lt h0))
    exact decide_eq_true this
  rintro _ rfl
  refine ⟨fun t => t = true, ?_, ?_⟩
  · refine Call.mk (reffinite_ev hx.2) ⟨fun _ => rfl, fun hf => ?_⟩
    have hF : isF x.Hi := by simpa using hf
    have hl : v ≤ vQ (fI x.Hi) := hin.2.2.resolve_left (by unfold isF at hF; omega)
    obtain ⟨w, w1, w2⟩ := (NumV.flt hF).prod hb (by omega) (by omega) (by omega) (by omega)
    obtain ⟨o, o1, o2, o3⟩ := w2.order ha (by omega) (by omega) (by omega) (by omega)
    refine Call.mk (float_ev hx.2 hF) (Call.mk w1 (Call.mk o1 ?_))
    have := o3 (by rw [hv]; exact Rat.mul_le_mul_of_nonneg_right hl (Rat.le_of_lt h0))
    exact decide_eq_true this
  rintro _ rfl
  exact Br.t rfl rfl
end Go.Sim.YtlkpbnhinnhlfaaGreat

/- What is proved: of a square matrix with two rows that are one, or of at most three rows with no determinant, something that is not nought is taken to nought. -/
namespace Go.Sim
theorem perp3 (a b c : Rat) : ∃ x y z : Rat, (x ≠ 0 ∨ y ≠ 0 ∨ z ≠ 0) ∧ a * x + b * y + c * z = 0 := by
  by_cases h : a ≠ 0 ∨ b ≠ 0
  · exact ⟨-b, a, 0, by grind, by grind⟩
  · exact ⟨1, 0, 0, .inl (by decide), by grind⟩
theorem par3 {a b c p q r x y z : Rat} (h : a ≠ 0 ∨ b ≠ 0 ∨ c ≠ 0) (h1 : b * r = c * q) (h2 : c * p = a * r) (h3 : a * q = b * p) (hx : a * x + b * y + c * z = 0) : p * x + q * y + r * z = 0 := by
  rcases h with h | h | h
  · have : a * (p * x + q * y + r * z) = 0 := by grind
    rcases Rat.mul_eq_zero.1 this with e | e
    · exact absurd e h
    · exact e
  · have : b * (p * x + q * y + r * z) = 0 := by grind
    rcases Rat.mul_eq_zero.1 this with e | e
    · exact absurd e h
    · exact e
  · have : c * (p * x + q * y + r * z) = 0 := by grind
    rcases Rat.mul_eq_zero.1 this with e | e
    · exact absurd e h
    · exact e
theorem ker3 (a b c p q r u v w : Rat) (hd : a * (q * w - r * v) - b * (p * w - r * u) + c * (p * v - q * u) = 0) :
    ∃ x y z : Rat, (x ≠ 0 ∨ y ≠ 0 ∨ z ≠ 0) ∧ a * x + b * y + c * z = 0 ∧ p * x + q * y + r * z = 0 ∧ u * x + v * y + w * z = 0 := by
  by_cases c1 : q * w - r * v ≠ 0 ∨ r * u - p * w ≠ 0 ∨ p * v - q * u ≠ 0
  · exact ⟨q * w - r * v, r * u - p * w, p * v - q * u, c1, by grind, by grind, by grind⟩
  by_cases c2 : v * c - w * b ≠ 0 ∨ w * a - u * c ≠ 0 ∨ u * b - v * a ≠ 0
  · exact ⟨v * c - w * b, w * a - u * c, u * b - v * a, c2, by grind, by grind, by grind⟩
  by_cases c3 : b * r - c * q ≠ 0 ∨ c * p - a * r ≠ 0 ∨ a * q - b * p ≠ 0
  · exact ⟨b * r - c * q, c * p - a * r, a * q - b * p, c3, by grind, by grind, by grind⟩
  by_cases z1 : a ≠ 0 ∨ b ≠ 0 ∨ c ≠ 0
  · obtain ⟨x, y, z, h0, h1⟩ := perp3 a b c
    exact ⟨x, y, z, h0, h1, par3 z1 (by grind) (by grind) (by grind) h1, par3 z1 (by grind) (by grind) (by grind) h1⟩
  by_cases z2 : p ≠ 0 ∨ q ≠ 0 ∨ r ≠ 0
  · obtain ⟨x, y, z, h0, h1⟩ := perp3 p q r
    exact ⟨x, y, z, h0, by grind, h1, par3 z2 (by grind) (by grind) (by grind) h1⟩
  · obtain ⟨x, y, z, h0, h1⟩ := perp3 u v w
    exact ⟨x, y, z, h0, by grind, by grind, h1⟩
theorem ker2 (a b p q : Rat) (hd : a * q - b * p = 0) : ∃ x y : Rat, (x ≠ 0 ∨ y ≠ 0) ∧ a * x + b * y = 0 ∧ p * x + q * y = 0 := by
  by_cases c1 : a ≠ 0 ∨ b ≠ 0
  · exact ⟨-b, a, by grind, by grind, by grind⟩
  by_cases c2 : p ≠ 0 ∨ q ≠ 0
  · exact ⟨-q, p, by grind, by grind, by grind⟩
  · exact ⟨1, 0, .inl (by decide), by grind, by grind⟩
end Go.Sim

/- What is proved: LinSingular holds. -/
namespace Go.Sim.YtlkpbnhinnhlfaaGreat
open Go.RowKit Go.Proofs Go.Proofs.Tryz
theorem ker_det {n : Nat} (h1 : 1 ≤ n) (h3 : n ≤ 3) {A : Nat → Nat → Rat} (hd : detN n A = 0) : ∃ x : Nat → Rat, (∃ k, k < n ∧ x k ≠ 0) ∧ ∀ k, k < n → applyQ A n x k = 0 := by
  have hn : n = 1 ∨ n = 2 ∨ n = 3 := by omega
  rcases hn with rfl | rfl | rfl
  · simp only [detN, sumQ, sgQ, minor] at hd
    refine ⟨fun _ => 1, ⟨0, by decide, by decide⟩, fun k hk => ?_⟩
    have : k = 0 := by omega
    subst this
    simp only [applyQ, sumQ]
    simp at hd
    grind
  · simp [detN, sumQ, sgQ, minor] at hd
    obtain ⟨x, y, h0, e1, e2⟩ := ker2 (A 0 0) (A 0 1) (A 1 0) (A 1 1) (by grind)
    refine ⟨fun k => if k = 0 then x else y, ?_, fun k hk => ?_⟩
    · rcases h0 with h | h
      · exact ⟨0, by decide, by simpa using h⟩
      · exact ⟨1, by decide, by simpa using h⟩
    · have : k = 0 ∨ k = 1 := by omega
      rcases this with rfl | rfl <;> simp [applyQ, sumQ] <;> grind
  · simp [detN, sumQ, sgQ, minor] at hd
    obtain ⟨x, y, z, h0, e1, e2, e3⟩ := ker3 (A 0 0) (A 0 1) (A 0 2) (A 1 0) (A 1 1) (A 1 2) (A 2 0) (A 2 1) (A 2 2) (by grind)
    refine ⟨fun k => if k = 0 then x else if k = 1 then y else z, ?_, fun k hk => ?_⟩
    · rcases h0 with h | h | h
      · exact ⟨0, by decide, by simpa using h⟩
      · exact ⟨1, by decide, by simpa using h⟩
      · exact ⟨2, by decide, by simpa using h⟩
    · have : k = 0 ∨ k = 1 ∨ k = 2 := by omega
      rcases this with rfl | rfl | rfl <;> simp [applyQ, sumQ] <;> grind
theorem square_ev {a : List (List Nat)} (hf : okFF a) (lf : a.length ≤ 9223372036854775807) : Ev_law04_square a (floatsB a && decide (a.length = (a.headD []).length)) := by
  refine walk_law04_square ?_
  unfold W_law04_square
  refine Call.mk (reffloats_ev hf lf) ?_
  cases hB : floatsB a with
  | false => exact Br.f rfl rfl
  | true =>
    have ht := floatsB_true hB
    refine Br.t rfl (At.nat (i := 0) (by omega) fun r hr => ?_)
    rw [headD_of hr]
    show _ = _
    rw [Bool.true_and, Bool.eq_iff_iff, beq_iff_eq, decide_eq_true_iff]
    omega
end Go.Sim.YtlkpbnhinnhlfaaGreat
-- seatfit

/- What is proved: a matrix without a row and a column; Cramer's rule; what holds the inverse of at most three rows passes the reference's test. -/
namespace Go.Sim.YtlkpbnhinnhlfaaGreat
open Go.RowKit Go.Proofs Go.Proofs.Tryz
/-- A matrix without a row and a column. -/
def minor2 {α : Type} (f : Nat → Nat → α) (p j : Nat) : Nat → Nat → α := fun i c => f (if i < p then i else i + 1) (if c < j then c else c + 1)
theorem filt_succ {n p : Nat} {α : Type} (h : Nat → α) : ((List.range (n + 1)).filter (fun c => decide (c ≠ p))).map h = ((List.range n).filter (fun c => decide (c ≠ p))).map h ++ (if n = p then [] else [h n]) := by
  rw [List.range_succ, List.filter_append, List.map_append, List.filter_cons]
  by_cases c : n = p
  · rw [if_neg (by simpa using c), if_pos c]; rfl
  · rw [if_pos (by simpa using c), if_neg c]; rfl
theorem without2_ev {n : Nat} (hn : n ≤ 23) {f : Nat → Nat → Gref01Num} {p j : Nat} (hp : p ≤ n) (hj : j ≤ n) : Ev_ref04_without (mkM (n + 1) f) (p : Int) (j : Int) (mkM n (minor2 f p j)) := by
  refine walk_ref04_without ?_
  unfold W_ref04_without
  rw [mkM_len]
  refine Loop2.up (n + 1) (fun i out => out = ((List.range i).filter (fun c => decide (c ≠ p))).map fun a => (List.range n).map fun c => f a (if c < j then c else c + 1)) rfl ?_
  rintro i out k hi rfl hk
  have hfo := List.length_filter_le (fun c => decide (c ≠ p)) (List.range i)
  rw [List.length_range] at hfo
  refine Br.d (fun hlt => At.nat (by rw [mkM_len]; omega) fun r hr => ?_) (fun hge => ?_)
  · rw [mkM_get (by omega)] at hr
    cases hr
    refine Br.e (fun h0 => Let.as _ (wi1 (by omega)) (hk _ (by omega) ?_)) (fun h0 => ?_)
    · rw [filt_succ, if_pos (by omega), List.append_nil]
    · rw [rowM_len]
      refine Loop2.up (n + 1) (fun c row => row = ((List.range c).filter (fun c => decide (c ≠ j))).map (f i)) (by simp) ?_
      rintro c row k2 hc rfl hk2
      have hfl := List.length_filter_le (fun c => decide (c ≠ j)) (List.range c)
      rw [List.length_range] at hfl
      refine Br.d (fun hlt2 => At.nat (by rw [rowM_len]; omega) fun x hx => ?_) (fun hge2 => ?_)
      · rw [rowM_get (by omega)] at hx
        cases hx
        refine ⟨fun hne => App.le (by omega) (by simp only [List.length_map, List.length_singleton]; omega) (Let.as _ (wi1 (by omega)) (hk2 _ (by omega) ?_)), fun he => Let.as _ (wi1 (by omega)) (hk2 _ (by omega) ?_)⟩
        · have : c ≠ j := by
            intro e; subst e; simp at hne
          rw [filt_succ, if_neg this]
        · have : c = j := by
            by_cases e : c = j
            · exact e
            · exfalso; have : ((c : Int) != (j : Int)) = true := by simp; omega
              rw [this] at he; cases he
          rw [filt_succ, if_pos this, List.append_nil]
      · have : c = n + 1 := by omega
        subst this
        refine App.le (by omega) (by simp only [List.length_map, List.length_singleton]; omega) (Let.as _ (wi1 (by omega)) (hk _ (by omega) ?_))
        rw [filt_succ (n := i) (p := p), if_neg (by omega), range_skip (f i) hj]
  · have : i = n + 1 := by omega
    subst this
    exact (range_skip (fun a => (List.range n).map fun c => f a (if c < j then c else c + 1)) hp).symm
/-! ### Cramer's rule -/
def sg2 (i j : Nat) : Rat := if (i + j) % 2 = 1 then -1 else 1
theorem cramer {n : Nat} (h1 : 1 ≤ n) (h3 : n ≤ 3) {A : Nat → Nat → Rat} {y : Nat → Rat} {k : Nat} (hk : k < n) (hy : ∀ i, i < n → applyQ A n y i = eyeQ i k) {i : Nat} (hi : i < n) :
    sg2 i k * detN (n - 1) (minor2 A k i) = y i * detN n A := by
  have hn : n = 1 ∨ n = 2 ∨ n = 3 := by omega
  rcases hn with rfl | rfl | rfl
  · have : k = 0 := by omega
    have : i = 0 := by omega
    subst k i
    have e0 := hy 0 (by omega)
    simp [applyQ, sumQ, eyeQ] at e0
    simp [detN, sumQ, sgQ, sg2]
    grind
  · have e0 := hy 0 (by omega)
    have e1 := hy 1 (by omega)
    have hk' : k = 0 ∨ k = 1 := by omega
    have hi' : i = 0 ∨ i = 1 := by omega
    rcases hk' with rfl | rfl <;> rcases hi' with rfl | rfl <;>
      simp [applyQ, sumQ, eyeQ] at e0 e1 <;> simp [detN, sumQ, sgQ, minor, minor2, sg2] <;> grind
  · have e0 := hy 0 (by omega)
    have e1 := hy 1 (by omega)
    have e2 := hy 2 (by omega)
    have hk' : k = 0 ∨ k = 1 ∨ k = 2 := by omega
    have hi' : i = 0 ∨ i = 1 ∨ i = 2 := by omega
    rcases hk' with rfl | rfl | rfl <;> rcases hi' with rfl | rfl | rfl <;>
      simp [applyQ, sumQ, eyeQ] at e0 e1 e2 <;> simp [detN, sumQ, sgQ, minor, minor2, sg2] <;> grind
theorem holds_inv {n : Nat} (h1 : 1 ≤ n) (h3 : n ≤ 3) {a : Nat → Nat → Nat} (ha : SqF n a) {x : Nat → Nat → GIval} {Y : Nat → Nat → Rat} (hd : detN n (fun i j => vQ (fI (a i j))) ≠ 0)
    (hy : ∀ k i, i < n → applyQ (fun i j => vQ (fI (a i j))) n (Y k) i = eyeQ i k) (hok : ∀ i j, i < n → j < n → okI (x i j)) (hx : ∀ i k, i < n → k < n → InQ (Y k i) (x i k)) : Ev_ref04_HoldsInverse (mkM n x) (mkM n a) true := by
  have hdet := det_ev n h3 (g := fun i j => fltZ (a i j)) (f := fun i j => vQ (fI (a i j))) (fun i j hi hj => NumV.flt (ha.fin i j hi hj))
  obtain ⟨d, d1, d2⟩ := hdet
  have hLB : LB n ≤ 60000 := by
    have : n = 1 ∨ n = 2 ∨ n = 3 := by omega
    rcases this with rfl | rfl | rfl <;> simp [LB]
  have d3 := d2.mono hLB (show 1074 * n ≤ 10000 by omega)
  obtain ⟨z, z1, -, z2⟩ := d2.sign2
  have hz : z ≠ 0 := fun h => hd (z2.1 h)
  refine walk_ref04_HoldsInverse ?_
  unfold W_ref04_HoldsInverse
  refine Call.mk (nums_ev (by omega) ha) (Call.mk d1 (Call.mk z1 (Br.eF hz ?_)))
  rw [mkM_len]
  refine Loop1.up n (fun _ => True) trivial ?_
  intro i k hi _ hk
  refine Br.d (fun hlt => At.nat (by rw [mkM_len]; omega) fun r hr => ?_) (fun _ => rfl)
  have hin : i < n := by omega
  rw [mkM_get hin] at hr
  cases hr
  rw [rowM_len]
  refine Loop1.up n (fun _ => True) trivial ?_
  intro j k2 hj _ hk2
  refine Br.d (fun hlt2 => ?_) (fun _ => Let.as _ (wi1 (by omega)) (hk (by omega) trivial))
  have hjn : j < n := by omega
  obtain ⟨m, rfl⟩ : ∃ m, n = m + 1 := ⟨n - 1, by omega⟩
  refine Call.mk (without2_ev (by omega) (by omega) (by omega)) ?_
  obtain ⟨c, c1, c2⟩ := det_ev m (by omega) (g := minor2 (fun i j => fltZ (a i j)) j i) (f := minor2 (fun i j => vQ (fI (a i j))) j i) (fun u v hu hv => by
    unfold minor2
    exact NumV.flt (ha.fin _ _ (by split <;> omega) (by split <;> omega)))
  have hLm : LB m ≤ 60000 := by
    have : m = 0 ∨ m = 1 ∨ m = 2 := by omega
    rcases this with rfl | rfl | rfl <;> simp [LB]
  have c3 := c2.mono hLm (show 1074 * m ≤ 10000 by omega)
  have hcr := cramer h1 h3 hjn (hy j) hin
  rw [show m + 1 - 1 = m by omega] at hcr
  refine Call.mk c1 (Let.as ((i + j : Nat) : Int) (by rw [wi (by omega) (by omega)]; omega) (Let.as (((i + j) % 2 : Nat) : Int) (by rw [Int.tmod_eq_emod_of_nonneg (by omega)]; omega) ⟨fun q => NumV q (Y j i * detN (m + 1) (fun i j => vQ (fI (a i j)))) 60000 10000, ?_, ?_⟩))
  · rw [← hcr]
    unfold sg2
    refine Br.e (fun h => ?_) (fun h => ?_)
    · rw [if_pos (by omega), Rat.neg_mul, Rat.one_mul]
      obtain ⟨q, q1, q2⟩ := c3.minus
      exact Call.mk q1 q2
    · rw [if_neg (by omega), Rat.one_mul]; exact c3
  · intro q hq
    refine At.nat (by rw [mkM_len]; omega) fun r hr => ?_
    rw [mkM_get hin] at hr
    cases hr
    refine At.nat (by rw [rowM_len]; omega) fun w hw => ?_
    rw [rowM_get hjn] at hw
    cases hw
    exact Call.mk (holds_quot (hok i j hin hjn) hq d3 hd rfl (hx i j hin hjn)) (Br.f rfl (Let.as _ (wi1 (by omega)) (hk2 (by omega) trivial)))
/-! ### An interval holds what it holds -/
theorem has_evQ {x : GIval} (hx : okI x) {v : Nat} (hv : v < 18446744073709551616) (hf : isF v) (h : InQ (vQ (fI v)) x) : Ev_ref02_Has x v true := by
  obtain ⟨r, hl, hh⟩ := h
  have l1 : fI x.Lo ≤ fI v := by
    unfold isF at hf
    rcases hl with h | h
    · omega
    · exact vQ_le h
  have l2 : fI v ≤ fI x.Hi := by
    unfold isF at hf
    rcases hh with h | h
    · omega
    · exact vQ_le h
  have hn := hf.n
  unfold isF at hf
  refine walk_ref02_Has ?_
  unfold W_ref02_Has
  refine Call.mk (refnone_ev hx) (Br.t (by unfold noneB; simp [r]) ?_)
  rw [ge_b hv hx.1, le_b hv hx.2]
  refine Br.dT ⟨hn, r.1, l1⟩ (Br.dT ⟨hn, r.2.1, l2⟩ (Call.mk refinf1_ev ?_))
  rw [bne, eq_inf hv]
  refine Br.t (by rw [decide_eq_false (by omega)]; rfl) (Call.mk refinfm_ev ?_)
  rw [bne, eq_ninf hv, decide_eq_false (by omega)]; rfl
end Go.Sim.YtlkpbnhinnhlfaaGreat

/- What is proved: LinInverts holds. -/
namespace Go.Sim.YtlkpbnhinnhlfaaGreat
open Go.RowKit Go.Proofs Go.Proofs.Tryz
theorem linInverts_ev (a0 : List (List Nat)) (h : a0.length ≤ maxLen ∧ ∀ r ∈ a0, (r.length ≤ maxLen ∧ ∀ z ∈ r, okFlt z)) : Ev_law04_LinInverts a0 true := by
  have hf : okFF a0 := fun r hr => ⟨fun v hv => okF.1 ((h.2 r hr).2 v hv), (h.2 r hr).1⟩
  have lf : a0.length ≤ 9223372036854775807 := h.1
  refine AFnS.det (AFnS.mono (walkS_law04_LinInverts (R := fun b => b = true) ?_) (by rintro y ⟨b, rfl, rfl⟩; rfl))
  unfold W_law04_LinInverts
  by_cases c : ¬ (floatsB a0 = true ∧ a0.length = (a0.headD []).length)
  · refine ⟨fun y => y = ([], 1), walkS_lin_Inverse (inverse_bad hf lf c rfl), ?_⟩
    rintro _ rfl
    refine Call.mk (square_ev hf lf) (Br.t ?_ (Br.t rfl rfl))
    cases h1 : floatsB a0 with
    | false => rfl
    | true => rw [Bool.true_and, decide_eq_false (fun h2 => c ⟨h1, h2⟩)]; rfl
  obtain ⟨hB, hsq⟩ := Classical.not_not.1 c
  have hsqe := square_ev hf lf
  rw [hB, decide_eq_true hsq] at hsqe
  have hpe := refpoints_ev hf lf
  rw [if_pos hB] at hpe
  have ht := floatsB_true hB
  obtain ⟨n, hn⟩ : ∃ n, a0.length = n := ⟨_, rfl⟩
  have h1 : 1 ≤ n := by rw [← hn]; exact ht.2.1.1
  have h24 : n ≤ 24 := by rw [← hn]; exact ht.2.1.2
  have e0 := mk_entry (n := n) 0 hn (fun r hr => by rw [(ht.1 r hr).1, ← hsq]; exact hn)
  generalize entry 0 a0 = a at e0
  subst e0
  have ha : SqF n a := ⟨fun i j hi hj => (hf _ (List.mem_of_getElem? (mkM_get hi))).1 _ (List.mem_of_getElem? (rowM_get hj)), fun i j hi hj => (ht.1 _ (List.mem_of_getElem? (mkM_get hi))).2 _ (List.mem_of_getElem? (rowM_get hj))⟩
  rw [hn]
  refine ⟨fun y => y = ([], 40) ∨ ∃ (x : Nat → Nat → GIval) (Y : Nat → Nat → Rat), y = (mkM n x, 0) ∧ (∀ i j, i < n → j < n → okI (x i j)) ∧ (∀ k i, i < n → applyQ (fun i j => vQ (fI (a i j))) n (Y k) i = eyeQ i k) ∧ (∀ i k, i < n → k < n → InQ (Y k i) (x i k)) ∧ (n ≤ 3 → detN n (fun i j => vQ (fI (a i j))) ≠ 0), walkS_lin_Inverse (inverse_W h1 h24 ha (.inl rfl) fun r hr hs _ => ?_), ?_⟩
  · obtain ⟨Y, y1, y2⟩ := inv_in hr ha h24 hs
    refine .inr ⟨_, Y, rfl, fun i j hi hj => ok_inv hr hi hj, y1, y2, fun h3 hd => ?_⟩
    obtain ⟨x, ⟨k, hk1, hk2⟩, hx⟩ := ker_det h1 h3 hd
    obtain ⟨q1, q2⟩ := dlt_near hr ha hs
    refine absurd (near_inj q2 (by grind) (x := x) (fun i hi => ?_) k hk1) hk2
    rw [apply_mul]
    refine sumQ_zero fun j hj => ?_
    rw [hx j hj]; simp
  · rintro y (rfl | ⟨x, Y, rfl, hok, hY, hin, hd⟩)
    · exact Call.mk hsqe (Br.f rfl (Br.t rfl (Br.t rfl rfl)))
    · have hl : (mkM n x).length = n := mkM_len
      have hM := refmatrix_ev (okM_mk h24 hok) (by rw [hl]; omega)
      have hMB := matB_mk h1 h24 fun i j hi hj => rightB_of (hin i j hi hj).1
      rw [hMB] at hM
      refine Call.mk hsqe (Br.f rfl (Br.f rfl (Call.mk hM (Br.f rfl (Br.f (by rw [hl]; simp) (At.nat (i := 0) (by rw [hl]; omega) fun r hr => ?_))))))
      rw [mkM_get (by omega)] at hr
      cases hr
      refine Br.f (by rw [rowM_len]; simp) (Br.d (fun h3 => ?_) (fun h3 => ?_))
      · exact Call.mk (holds_inv h1 (by omega) ha (hd (by omega)) hY hok hin) rfl
      · have hoA : ∀ i j, i < n → j < n → okI (ptI (a i j)) := fun i j hi hj => ok_pt (ha.lt i j hi hj)
        have hAB := matB_mk h1 h24 fun i j hi hj => rightB_of (pt_ends (ha.lt i j hi hj) (ha.fin i j hi hj)).1
        have hmul := reflinmul_ev (okM_mk h24 hoA) (okM_mk h24 hok) (by unfold mmB; rw [hAB, hMB, headD_mk h1, rowM_len, mkM_len]; simp)
        rw [mmI_mk h1] at hmul
        rw [ptsI_mk] at hpe
        refine Call.mk hpe (Call.mk hmul ?_)
        rw [mkM_len]
        refine Loop1.up n (fun _ => True) trivial ?_
        intro i k hi _ hk
        refine Br.d (fun hlt => At.nat (by rw [mkM_len]; omega) fun r hr => ?_) (fun _ => rfl)
        have hiN : i < n := by omega
        have hr' := hr
        rw [mkM_get hiN] at hr
        cases hr
        rw [rowM_len]
        refine Loop1.up n (fun _ => True) trivial ?_
        intro j k2 hj _ hk2
        refine Br.d (fun hlt2 => ?_) (fun _ => Let.as _ (wi1 (by omega)) (hk (by omega) trivial))
        have hjN : j < n := by omega
        refine ⟨fun v => v = oneV i j, ?_, ?_⟩
        · unfold oneV
          refine Br.e (fun h => ?_) (fun h => ?_)
          · rw [if_pos (by omega)]
          · rw [if_neg (by omega)]
        · rintro _ rfl
          refine At.nat (by rw [mkM_len]; omega) fun r hr => ?_
          rw [mkM_get hiN] at hr
          cases hr
          refine At.nat (by rw [rowM_len]; omega) fun w hw => ?_
          rw [rowM_get hjN] at hw
          cases hw
          refine Call.mk (has_evQ (ok_dotF _ _ ok_zero) (oneV_lt i j) (oneV_F i j) ?_) (Br.f rfl (Let.as _ (wi1 (by omega)) (hk2 (by omega) trivial)))
          have e : vQ (fI (oneV i j)) = sumQ (fun k => vQ (fI (a i k)) * Y j k) n := by rw [eye_v, ← hY j i hiN]; rfl
          rw [e]
          exact dot_in fun k hk => mul_in (ha.lt i k hiN hk) (ha.fin i k hiN hk) (hok k j hk hjN) (hin k j hk hjN)
end Go.Sim.YtlkpbnhinnhlfaaGreat
