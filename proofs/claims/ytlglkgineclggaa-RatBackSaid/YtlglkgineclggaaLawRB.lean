/- What is proved: RatBack: what is added and taken off again, multiplied and divided again, is as it was; the interval of a sum lies in the sum of the intervals, that of a product in the product. -/
import Derived.Test.YtlglkgineclggaaRatE
import Derived.Test.YtlglkgineclggaaWF6
namespace Go.Sim.Ytlglkgineclggaa
open Go.RowKit Go.Proofs Go.Proofs.Try
set_option exponentiation.threshold 5000

def holdS (a : GRat) : GIval := ⟨rd (a.N * (T74 : Int)) a.D.natAbs (-1), rd (a.N * (T74 : Int)) a.D.natAbs 1⟩
def loA (a : GRat) : Int := fV (dp (a.N * (T74 : Int)) a.D.natAbs)
def hiA (a : GRat) : Int := -fV (dp (-a.N * (T74 : Int)) a.D.natAbs)

structure Ends (a : GRat) : Prop where
  D : 1 ≤ a.D
  fin : FinI (holdS a)
  lo : fV (fI (holdS a).Lo) = loA a
  hi : fV (fI (holdS a).Hi) = hiA a
  l : loA a * a.D ≤ a.N * (T74 : Int)
  h : a.N * (T74 : Int) ≤ hiA a * a.D
  l1 : -(9223372036854775808 * (T74 : Int)) ≤ loA a
  l2 : loA a ≤ 9223372036854775808 * (T74 : Int)
  h1 : -(9223372036854775808 * (T74 : Int)) ≤ hiA a
  h2 : hiA a ≤ 9223372036854775808 * (T74 : Int)

theorem ends_of {a : GRat} (ha : a.inI) (hr : a.right = true) : Ends a := by
  obtain ⟨p1, p2, p3⟩ := GRat.right_spec.1 hr
  have hN := ha.1
  unfold Sim.inI at hN
  have hD : 0 < a.D.natAbs := by omega
  have eD : ((a.D.natAbs : Nat) : Int) = a.D := by omega
  have b1 := dp_b (N := a.N) ⟨by omega, by omega⟩ hD
  have b2 := dp_b (N := -a.N) ⟨by omega, by omega⟩ hD
  have f1 := (le_dp (P := a.N * (T74 : Int)) hD (by omega) (by omega)).1 b1.1
  have f2 := (le_dp (P := -a.N * (T74 : Int)) hD (by omega) (by omega)).1 b2.1
  have en : -(a.N * (T74 : Int)) = -a.N * (T74 : Int) := (Int.neg_mul _ _).symm
  have fin := fin_rd hD f1 (by rw [en]; exact f2)
  refine { D := p1, fin := fin, lo := ?_, hi := ?_, l := ?_, h := ?_, l1 := b1.2.2.1, l2 := b1.2.2.2, h1 := ?_, h2 := ?_ }
  · show fV (fI (rd _ _ (-1))) = _; rw [fI_rd_dn]; rfl
  · show fV (fI (rd _ _ 1)) = _; rw [fI_rd_up hD, fV_neg, en]; rfl
  · have := b1.2.1; rw [eD] at this; exact this
  · have := b2.2.1
    rw [eD] at this
    unfold hiA
    generalize fV (dp (-a.N * (T74 : Int)) a.D.natAbs) = V at *
    rw [Int.neg_mul] at this ⊢
    omega
  · have := b2.2.2.2; unfold hiA; omega
  · have := b2.2.2.1; unfold hiA; omega

/-- Sums of lower bounds are lower bounds of sums. -/
theorem sum_le {la lb A B X Da Db Dx t : Int} (h1 : la * Da ≤ A * t) (h2 : lb * Db ≤ B * t) (hX : X * (Da * Db) = (A * Db + B * Da) * Dx) (a0 : 0 < Da) (b0 : 0 < Db) (x0 : 0 < Dx) : (la + lb) * Dx ≤ X * t := by
  have k1 : la * Da * Db ≤ A * t * Db := Int.mul_le_mul_of_nonneg_right h1 (by omega)
  have k2 : lb * Db * Da ≤ B * t * Da := Int.mul_le_mul_of_nonneg_right h2 (by omega)
  have k3 : (la * Da * Db + lb * Db * Da) * Dx ≤ (A * t * Db + B * t * Da) * Dx := Int.mul_le_mul_of_nonneg_right (by omega) (by omega)
  have k4 : (la + lb) * Dx * (Da * Db) ≤ X * t * (Da * Db) := by
    have e1 : (la + lb) * Dx * (Da * Db) = (la * Da * Db + lb * Db * Da) * Dx := by grind
    have e2 : X * t * (Da * Db) = (A * t * Db + B * t * Da) * Dx := by
      have : X * t * (Da * Db) = X * (Da * Db) * t := by grind
      rw [this, hX]; grind
    rw [e1, e2]; exact k3
  exact Int.le_of_mul_le_mul_right k4 (Int.mul_pos a0 b0)

/-- The least corner is not above the product. -/
theorem corner_le {l1 h1 l2 h2 p q : Int} (a1 : l1 ≤ p) (a2 : p ≤ h1) (b1 : l2 ≤ q) (b2 : q ≤ h2) : ∃ s t, (s = l1 ∨ s = h1) ∧ (t = l2 ∨ t = h2) ∧ s * t ≤ p * q := by
  by_cases hq : 0 ≤ q
  · have k : l1 * q ≤ p * q := Int.mul_le_mul_of_nonneg_right a1 hq
    by_cases hl : 0 ≤ l1
    · exact ⟨l1, l2, .inl rfl, .inl rfl, Int.le_trans (Int.mul_le_mul_of_nonneg_left b1 hl) k⟩
    · exact ⟨l1, h2, .inl rfl, .inr rfl, Int.le_trans (Int.mul_le_mul_of_nonpos_left (by omega) b2) k⟩
  · have k : h1 * q ≤ p * q := Int.mul_le_mul_of_nonpos_right a2 (by omega)
    by_cases hl : 0 ≤ h1
    · exact ⟨h1, l2, .inr rfl, .inl rfl, Int.le_trans (Int.mul_le_mul_of_nonneg_left b1 hl) k⟩
    · exact ⟨h1, h2, .inr rfl, .inr rfl, Int.le_trans (Int.mul_le_mul_of_nonpos_left (by omega) b2) k⟩

theorem fin_last (P : Int) {Q : Nat} (hQ : 0 < Q) (h1 : -((fv 9218868437227405311 : Nat) : Int) * Q ≤ P) : -9218868437227405311 ≤ dp P Q := by
  rw [le_dp hQ (by omega) (by omega)]
  have : fV (-9218868437227405311) = -((fv 9218868437227405311 : Nat) : Int) := by rw [fV_neg]; exact congrArg _ (fV_nat 9218868437227405311)
  rw [this]; exact h1

theorem hold_add {a b x : GRat} (ea : Ends a) (eb : Ends b) (ex : Ends x) (hx : x.N * (a.D * b.D) = (a.N * b.D + b.N * a.D) * x.D) :
    ∃ z, Ev_ival_Add (holdS a) (holdS b) z ∧ FinI z ∧ fI z.Lo ≤ fI (holdS x).Lo ∧ fI (holdS x).Hi ≤ fI z.Hi := by
  have hT := T74_pos
  have hbig := last_big
  have aD := ea.D; have bD := eb.D; have xD := ex.D
  have xn : 0 < x.D.natAbs := by omega
  have exD : ((x.D.natAbs : Nat) : Int) = x.D := by omega
  have l1 := ea.l1; have l2 := ea.l2; have l3 := eb.l1; have l4 := eb.l2
  have h1 := ea.h1; have h2 := ea.h2; have h3 := eb.h1; have h4 := eb.h2
  have eL : fI (addB (holdS a).Lo (holdS b).Lo (-1)) = dp (loA a + loA b) 1 := by rw [addB_rd, fI_rd_dn, ea.lo, eb.lo]
  have eH : fI (addB (holdS a).Hi (holdS b).Hi 1) = -dp (-(hiA a + hiA b)) 1 := by rw [addB_rd, fI_rd_up (by decide), ea.hi, eb.hi]
  have s1 := sum_le ea.l eb.l hx (by omega) (by omega) (by omega)
  have s2 := sum_le (la := -hiA a) (lb := -hiA b) (A := -a.N) (B := -b.N) (X := -x.N) (t := (T74 : Int)) (Da := a.D) (Db := b.D) (Dx := x.D) (by have := ea.h; rw [Int.neg_mul, Int.neg_mul]; omega) (by have := eb.h; rw [Int.neg_mul, Int.neg_mul]; omega) (by rw [Int.neg_mul, hx]; grind) (by omega) (by omega) (by omega)
  have m1 : dp (loA a + loA b) 1 ≤ dp (x.N * (T74 : Int)) x.D.natAbs := dp_mono (by decide) xn (by rw [exD]; simpa using s1)
  have m2 : dp (-(hiA a + hiA b)) 1 ≤ dp (-x.N * (T74 : Int)) x.D.natAbs := dp_mono (by decide) xn (by rw [exD, show -(hiA a + hiA b) = -hiA a + -hiA b by omega]; simpa using s2)
  have xl : fI (holdS x).Lo = dp (x.N * (T74 : Int)) x.D.natAbs := fI_rd_dn
  have xh : fI (holdS x).Hi = -dp (-x.N * (T74 : Int)) x.D.natAbs := by
    show fI (rd _ _ 1) = _; rw [fI_rd_up xn, Int.neg_mul]
  have r1 := dp_range (loA a + loA b) 1
  have r2 := dp_range (-(hiA a + hiA b)) 1
  have f1 := fin_last (loA a + loA b) (Q := 1) (by decide) (by omega)
  have f2 := fin_last (-(hiA a + hiA b)) (Q := 1) (by decide) (by omega)
  have xle := ex.fin.le
  have fz : FinI ⟨addB (holdS a).Lo (holdS b).Lo (-1), addB (holdS a).Hi (holdS b).Hi 1⟩ :=
    { l := (rd_num _ _ _).l, h := (rd_num _ _ _).l, fl := by show isF (addB _ _ _); unfold isF; rw [eL]; omega, fh := by show isF (addB _ _ _); unfold isF; rw [eH]; omega,
      zl := (rd_num _ _ _).z, zh := (rd_num _ _ _).z, le := by show fI (addB _ _ _) ≤ fI (addB _ _ _); rw [eL, eH]; omega }
  exact ⟨_, iadd_ev ea.fin eb.fin fz, fz, by show fI (addB _ _ _) ≤ _; rw [eL, xl]; exact m1, by show _ ≤ fI (addB _ _ _); rw [eH, xh]; omega⟩

theorem prod_le {s t A B X Da Db Dx τ : Int} (h : (s * Da) * (t * Db) ≤ (A * τ) * (B * τ)) (hX : X * (Da * Db) = (A * B) * Dx) (a0 : 0 < Da) (b0 : 0 < Db) (x0 : 0 < Dx) : (s * t) * Dx ≤ X * τ * τ := by
  have k : (s * Da) * (t * Db) * Dx ≤ (A * τ) * (B * τ) * Dx := Int.mul_le_mul_of_nonneg_right h (by omega)
  have k4 : (s * t) * Dx * (Da * Db) ≤ X * τ * τ * (Da * Db) := by
    have e1 : (s * t) * Dx * (Da * Db) = (s * Da) * (t * Db) * Dx := by grind
    have e2 : X * τ * τ * (Da * Db) = (A * τ) * (B * τ) * Dx := by
      have : X * τ * τ * (Da * Db) = X * (Da * Db) * (τ * τ) := by grind
      rw [this, hX]; grind
    rw [e1, e2]; exact k
  exact Int.le_of_mul_le_mul_right k4 (Int.mul_pos a0 b0)

theorem hold_mul {a b x : GRat} (ea : Ends a) (eb : Ends b) (ex : Ends x) (hx : x.N * (a.D * b.D) = (a.N * b.N) * x.D) :
    ∃ z, Ev_ival_Mul (holdS a) (holdS b) z ∧ FinI z ∧ fI z.Lo ≤ fI (holdS x).Lo ∧ fI (holdS x).Hi ≤ fI z.Hi := by
  have hT := T74_pos
  have hbig := last_big
  have aD := ea.D; have bD := eb.D; have xD := ex.D
  have xn : 0 < x.D.natAbs := by omega
  have exD : ((x.D.natAbs : Nat) : Int) = x.D := by omega
  have l1 := ea.l1; have l2 := ea.l2; have l3 := eb.l1; have l4 := eb.l2
  have h1 := ea.h1; have h2 := ea.h2; have h3 := eb.h1; have h4 := eb.h2
  have xl : fI (holdS x).Lo = dp (x.N * (T74 : Int)) x.D.natAbs := fI_rd_dn
  have xh : fI (holdS x).Hi = -dp (-x.N * (T74 : Int)) x.D.natAbs := by
    show fI (rd _ _ 1) = _; rw [fI_rd_up xn, Int.neg_mul]
  -- a corner's bounds
  have bnd : ∀ u w : Int, -(9223372036854775808 * (T74 : Int)) ≤ u → u ≤ 9223372036854775808 * (T74 : Int) → -(9223372036854775808 * (T74 : Int)) ≤ w → w ≤ 9223372036854775808 * (T74 : Int) →
      -((fv 9218868437227405311 : Nat) : Int) * (T74 : Int) ≤ u * w ∧ -((fv 9218868437227405311 : Nat) : Int) * (T74 : Int) ≤ -(u * w) := by
    intro u w u1 u2 w1 w2
    have e : (u * w).natAbs ≤ (9223372036854775808 * T74) * (9223372036854775808 * T74) := by
      rw [Int.natAbs_mul]; exact Nat.mul_le_mul (by omega) (by omega)
    have e2 : (9223372036854775808 * T74) * (9223372036854775808 * T74) = 85070591730234615865843651857942052864 * T74 * T74 := by
      generalize T74 = τ
      rw [show (85070591730234615865843651857942052864 : Nat) = 9223372036854775808 * 9223372036854775808 by decide]
      simp only [Nat.mul_assoc, Nat.mul_left_comm τ]
    have e3 : 85070591730234615865843651857942052864 * T74 * T74 ≤ fv 9218868437227405311 * T74 := Nat.mul_le_mul_right _ hbig
    rw [Int.neg_mul, ← Int.natCast_mul]
    generalize fv 9218868437227405311 * T74 = Y at *
    omega
  have dn : ∀ u w : Nat, fI (mulB u w (-1)) = dp (fV (fI u) * fV (fI w)) T74 := fun u w => by rw [mulB_rd, fI_rd_dn, T74_eq]
  have up : ∀ u w : Nat, fI (mulB u w 1) = -dp (-(fV (fI u) * fV (fI w))) T74 := fun u w => by rw [mulB_rd, fI_rd_up (Nat.two_pow_pos _), T74_eq]
  have hb : ∀ u, u = (holdS a).Lo ∨ u = (holdS a).Hi → ∀ w, w = (holdS b).Lo ∨ w = (holdS b).Hi → -9218868437227405311 ≤ fI (mulB u w (-1)) ∧ fI (mulB u w (-1)) ≤ fI (mulB u w 1) ∧ fI (mulB u w 1) ≤ 9218868437227405311 := by
    intro u hu w hw
    have bu : -(9223372036854775808 * (T74 : Int)) ≤ fV (fI u) ∧ fV (fI u) ≤ 9223372036854775808 * (T74 : Int) := by
      rcases hu with rfl | rfl
      · rw [ea.lo]; exact ⟨l1, l2⟩
      · rw [ea.hi]; exact ⟨h1, h2⟩
    have bw : -(9223372036854775808 * (T74 : Int)) ≤ fV (fI w) ∧ fV (fI w) ≤ 9223372036854775808 * (T74 : Int) := by
      rcases hw with rfl | rfl
      · rw [eb.lo]; exact ⟨l3, l4⟩
      · rw [eb.hi]; exact ⟨h3, h4⟩
    obtain ⟨k1, k2⟩ := bnd _ _ bu.1 bu.2 bw.1 bw.2
    have f1 := fin_last _ hT k1
    have f2 := fin_last _ hT k2
    have r1 := dp_range (fV (fI u) * fV (fI w)) T74
    have r2 := dp_range (-(fV (fI u) * fV (fI w))) T74
    rw [dn, up]
    have c1 := (le_dp (P := fV (fI u) * fV (fI w)) hT f1 r1.2).1 (Int.le_refl _)
    have c2 := (le_dp (P := -(fV (fI u) * fV (fI w))) hT f2 r2.2).1 (Int.le_refl _)
    refine ⟨f1, ?_, by omega⟩
    have c4 : fV (dp (fV (fI u) * fV (fI w)) T74) + fV (dp (-(fV (fI u) * fV (fI w))) T74) ≤ 0 := by
      by_cases h : fV (dp (fV (fI u) * fV (fI w)) T74) + fV (dp (-(fV (fI u) * fV (fI w))) T74) ≤ 0
      · exact h
      · have h5 := Int.mul_pos (show 0 < fV (dp (fV (fI u) * fV (fI w)) T74) + fV (dp (-(fV (fI u) * fV (fI w))) T74) by omega) (show (0 : Int) < T74 by omega)
        rw [Int.add_mul] at h5; omega
    have c5 : fV (dp (fV (fI u) * fV (fI w)) T74) ≤ fV (-dp (-(fV (fI u) * fV (fI w))) T74) := by rw [fV_neg]; omega
    exact fV_le_iff.1 c5
  obtain ⟨z, k1, k2, k3, k4⟩ := imul_ev ea.fin eb.fin 9218868437227405311 (by omega) hb
  refine ⟨z, k1, k2, ?_, ?_⟩
  · -- a corner below
    obtain ⟨s', t', hs, ht, hst⟩ := corner_le ea.l ea.h eb.l eb.h
    have key : ∀ s t : Int, (s * a.D) * (t * b.D) ≤ a.N * (T74 : Int) * (b.N * (T74 : Int)) → dp (s * t) T74 ≤ fI (holdS x).Lo := by
      intro s t h
      rw [xl]
      refine dp_mono hT xn ?_
      rw [exD]
      exact prod_le h hx (by omega) (by omega) (by omega)
    rw [k3, dn, dn, dn, dn, ea.lo, ea.hi, eb.lo, eb.hi]
    rcases hs with rfl | rfl <;> rcases ht with rfl | rfl
    · have := key _ _ hst; omega
    · have := key _ _ hst; omega
    · have := key _ _ hst; omega
    · have := key _ _ hst; omega
  · -- a corner above
    obtain ⟨s', t', hs, ht, hst⟩ := corner_le (l1 := -hiA a * a.D) (h1 := -loA a * a.D) (p := -a.N * (T74 : Int)) (by have := ea.h; rw [Int.neg_mul, Int.neg_mul]; omega) (by have := ea.l; rw [Int.neg_mul, Int.neg_mul]; omega) eb.l eb.h
    have key : ∀ s t : Int, (-s * a.D) * (t * b.D) ≤ -a.N * (T74 : Int) * (b.N * (T74 : Int)) → dp (-(s * t)) T74 ≤ dp (-x.N * (T74 : Int)) x.D.natAbs := by
      intro s t h
      refine dp_mono hT xn ?_
      rw [exD, ← Int.neg_mul]
      exact prod_le h (by rw [Int.neg_mul, hx]; grind) (by omega) (by omega) (by omega)
    rw [k4, xh, up, up, up, up, ea.lo, ea.hi, eb.lo, eb.hi]
    rcases hs with rfl | rfl <;> rcases ht with rfl | rfl
    · have := key _ _ hst; omega
    · have := key _ _ hst; omega
    · have := key _ _ hst; omega
    · have := key _ _ hst; omega

theorem hold_ev' {a : GRat} (ha : a.inI) (hr : a.right = true) : Ev_rat_Hold a (holdS a) := hold_ev ha hr (ends_of ha hr).fin

theorem in_ev {x z : GIval} (hx : FinI x) (hz : FinI z) (h1 : fI z.Lo ≤ fI x.Lo) (h2 : fI x.Hi ≤ fI z.Hi) : Ev_ival_Inside x z true := by
  have := inside_ev hx hz
  rwa [decide_eq_true ⟨h1, h2⟩] at this

theorem inI_ok {n : Int} (h : okInt .i64 n) : Sim.inI n := by
  have e1 : IntKind.i64.min = -9223372036854775808 := rfl
  have e2 : IntKind.i64.max = 9223372036854775807 := rfl
  unfold okInt at h
  unfold Sim.inI
  omega

theorem valS_abs (z : Int) : valS (decide (z < 0)) z.natAbs = z := by
  unfold valS
  by_cases h : z < 0
  · rw [decide_eq_true h, if_pos rfl]; omega
  · rw [decide_eq_false h, if_neg (by decide)]; omega

theorem sub_back {a b : GRat} (ha : a.inI) (hb : b.inI) (hr : a.right = true) (hrb : b.right = true) (h : (addS a.p b.p).2 = 0) : subS (addS a.p b.p).1 b.p = (a.p, 0) := by
  obtain ⟨_, _, r3, r4, r5, r6⟩ := add_val h
  generalize (addS a.p b.p).1 = x at *
  obtain ⟨p1, p2, p3⟩ := GRat.right_spec.1 hr
  obtain ⟨q1, q2, q3⟩ := GRat.right_spec.1 hrb
  obtain ⟨s1, s2, s3⟩ := rightS_spec.1 r3
  have hnb : rightS (-b.N) b.D = true := rightS_spec.2 ⟨q1, by have := hb.1; unfold Sim.inI at this; omega, by rw [Int.natAbs_neg]; exact q3⟩
  unfold subS
  rw [if_pos (show rightS b.p.1 b.p.2 = true from hrb)]
  unfold addS
  rw [show rightS x.1 x.2 = true from r3, show rightS (-b.p.1, b.p.2).1 (-b.p.1, b.p.2).2 = true from hnb]
  simp only [Bool.and_self, if_true]
  refine madeS_exact (Nat.mul_ne_zero (by omega) (by show b.D.natAbs ≠ 0; omega)) hr ha.1 ha.2 ?_
  rw [valS_abs]
  have e : ((x.2.natAbs * b.D.natAbs : Nat) : Int) = x.2 * b.D := by
    rw [Int.natCast_mul]; congr 1 <;> omega
  show (x.1 * b.D + -b.N * x.2) * a.D = a.N * ((x.2.natAbs * b.D.natAbs : Nat) : Int)
  rw [e]
  have r4' : x.1 * (a.D * b.D) = (a.N * b.D + b.N * a.D) * x.2 := r4
  grind

theorem div_back {a b : GRat} (ha : a.inI) (hr : a.right = true) (hrb : b.right = true) (hb0 : b.N ≠ 0) (h : (mulS a.p b.p).2 = 0) : divS (mulS a.p b.p).1 b.p = (a.p, 0) := by
  obtain ⟨_, _, r3, r4, r5, r6⟩ := mul_val h
  generalize (mulS a.p b.p).1 = x at *
  obtain ⟨p1, p2, p3⟩ := GRat.right_spec.1 hr
  obtain ⟨q1, q2, q3⟩ := GRat.right_spec.1 hrb
  obtain ⟨s1, s2, s3⟩ := rightS_spec.1 r3
  have r4' : x.1 * (a.D * b.D) = (a.N * b.N) * x.2 := r4
  unfold divS
  rw [show rightS x.1 x.2 = true from r3, show rightS b.p.1 b.p.2 = true from hrb]
  simp only [Bool.and_self, if_true]
  rw [if_neg (show ¬ b.p.1 = 0 from hb0)]
  refine madeS_exact (Nat.mul_ne_zero (by omega) (by show b.N.natAbs ≠ 0; omega)) hr ha.1 ha.2 ?_
  have e1 : valS (decide (x.1 < 0) != decide (b.N < 0)) (x.1.natAbs * b.D.natAbs) = if b.N < 0 then -(x.1 * b.D) else x.1 * b.D := by
    have ed : ((b.D.natAbs : Nat) : Int) = b.D := by omega
    unfold valS
    rw [Int.natCast_mul, ed]
    by_cases h1 : x.1 < 0 <;> by_cases h2 : b.N < 0
    · rw [if_neg (by simp [h1, h2]), if_pos h2, show ((x.1.natAbs : Nat) : Int) = -x.1 by omega, Int.neg_mul]
    · rw [if_pos (by simp [h1]; omega), if_neg h2, show ((x.1.natAbs : Nat) : Int) = -x.1 by omega, Int.neg_mul, Int.neg_neg]
    · rw [if_pos (by simp [h2]; omega), if_pos h2, show ((x.1.natAbs : Nat) : Int) = x.1 by omega]
    · rw [if_neg (by simp [h1, h2]), if_neg h2, show ((x.1.natAbs : Nat) : Int) = x.1 by omega]
  have e2 : ((x.2.natAbs * b.N.natAbs : Nat) : Int) = if b.N < 0 then -(x.2 * b.N) else x.2 * b.N := by
    rw [Int.natCast_mul, show ((x.2.natAbs : Nat) : Int) = x.2 by omega]
    split
    · rw [show ((b.N.natAbs : Nat) : Int) = -b.N by omega, Int.mul_neg]
    · rw [show ((b.N.natAbs : Nat) : Int) = b.N by omega]
  show valS (decide (x.1 < 0) != decide (b.N < 0)) (x.1.natAbs * b.D.natAbs) * a.D = a.N * ((x.2.natAbs * b.N.natAbs : Nat) : Int)
  rw [e1, e2]
  split <;> grind

theorem made_err (s : Bool) (n d : Nat) : (madeS s n d).2 = 0 ∨ (madeS s n d).2 = 3 := by
  unfold madeS; split <;> simp

theorem ratBack_ev (a b : GRat) (oa : a.ok) (ob : b.ok) : Ev_law11_RatBack a b true := by
  have ha : a.inI := ⟨inI_ok oa.1, inI_ok oa.2⟩
  have hb : b.inI := ⟨inI_ok ob.1, inI_ok ob.2⟩
  refine walk_law11_RatBack ?_
  unfold W_law11_RatBack
  refine Call.mk (refright_ev ha) ?_
  cases ra : a.right with
  | false => exact Br.t rfl rfl
  | true =>
  refine Br.f rfl (Call.mk (refright_ev hb) ?_)
  cases rb : b.right with
  | false => exact Br.t rfl rfl
  | true =>
  have ea := ends_of ha ra
  have eb := ends_of hb rb
  have bs : ∀ c : GRat, GRat.beq c c = true := fun c => (GRat.beq_iff c c).2 rfl
  refine Br.f rfl (Call.mk (radd_ev ha hb) ⟨True, ?_, fun _ => ?_⟩)
  · refine Br.e (fun h0 => ?_) (fun _ => trivial)
    have hs := sub_back ha hb ra rb h0
    obtain ⟨_, _, r3, r4, r5, r6⟩ := add_val (a := a.p) (b := b.p) h0
    have hxI : (toR (addS a.p b.p)).1.inI := ⟨r5, r6⟩
    have ex := ends_of hxI r3
    refine Call.mk (rsub_ev hxI hb) ?_
    have hs' : toR (subS (toR (addS a.p b.p)).1.p b.p) = (a, 0) := by
      show toR (subS (addS a.p b.p).1 b.p) = _
      rw [hs]
    rw [hs']
    obtain ⟨z, k1, k2, k3, k4⟩ := hold_add ea eb ex r4
    exact Br.f rfl (Br.f (by rw [bs]; rfl) (Call.mk (hold_ev' hxI r3) (Call.mk (hold_ev' ha ra) (Call.mk (hold_ev' hb rb) (Call.mk k1 (Call.mk (in_ev ex.fin k2 k3 k4) (Br.f rfl trivial)))))))
  · refine Call.mk (rmul_ev ha hb) ⟨True, ?_, fun _ => ?_⟩
    · refine Br.e (fun h0 => ?_) (fun _ => trivial)
      obtain ⟨_, _, r3, r4, r5, r6⟩ := mul_val (a := a.p) (b := b.p) h0
      have hxI : (toR (mulS a.p b.p)).1.inI := ⟨r5, r6⟩
      have ex := ends_of hxI r3
      obtain ⟨z, k1, k2, k3, k4⟩ := hold_mul ea eb ex r4
      refine Call.mk (hold_ev' hxI r3) (Call.mk (hold_ev' ha ra) (Call.mk (hold_ev' hb rb) (Call.mk k1 (Call.mk (in_ev ex.fin k2 k3 k4) (Br.f rfl (Call.mk (rdiv_ev hxI hb) ?_))))))
      refine ⟨fun hn => ?_, fun _ => trivial⟩
      rw [bne_iff_ne] at hn
      have hd' : toR (divS (toR (mulS a.p b.p)).1.p b.p) = (a, 0) := by
        show toR (divS (mulS a.p b.p).1 b.p) = _
        rw [div_back ha ra rb hn h0]
      rw [hd']
      exact Br.f rfl (Br.f (by rw [bs]; rfl) trivial)
    · refine Br.e (fun _ => rfl) (fun h => ?_)
      show ((toR (mulS a.p b.p)).2 == 3) = true
      have : (mulS a.p b.p).2 = 0 ∨ (mulS a.p b.p).2 = 3 := by
        unfold mulS
        rw [show rightS a.p.1 a.p.2 = true from ra, show rightS b.p.1 b.p.2 = true from rb]
        exact made_err _ _ _
      rcases this with h3 | h3
      · exact absurd h3 h
      · show ((mulS a.p b.p).2 == 3) = true
        rw [h3]; rfl

end Go.Sim.Ytlglkgineclggaa
