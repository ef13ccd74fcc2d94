/- What is proved: sums and products of intervals grow with the intervals; sums with 0 and products with 1 change nothing. -/
import Derived.Test.YtlglkgineclggaaZGLinY
namespace Go.Sim.Ytlglkgineclggaa
open Go.RowKit Go.Proofs Go.Proofs.Try
set_option exponentiation.threshold 5000
/-- The one lies in the other. -/
def SubI (p x : GIval) : Prop := RIp p → RIp x ∧ fI x.Lo ≤ fI p.Lo ∧ fI p.Hi ≤ fI x.Hi
theorem SubI.refl (x : GIval) : SubI x x := fun h => ⟨h, Int.le_refl _, Int.le_refl _⟩
theorem notR_emp : ¬ RIp EMP := by decide
theorem max_I : fI 9218868437227405311 = 9218868437227405311 := by decide
theorem min_I : fI 18442240474082181119 = -9218868437227405311 := by decide
/-- What ends make. -/
theorem ends_make {lo hi : Nat} (hl : NumB lo) (hh : NumB hi) : endsI lo hi = if min (fI lo) 9218868437227405311 ≤ max (fI hi) (-9218868437227405311) then ⟨fminB lo 9218868437227405311, fmaxB hi 18442240474082181119⟩ else EMP := by
  have m1 := hl.min num_max
  have m2 := hh.max num_min
  rw [max_I] at m1
  rw [min_I] at m2
  unfold endsI makeI
  rw [cleanB_num m1.1, cleanB_num m2.1]
  have n1 := m1.1.n; have n2 := m2.1.n
  have z1 := m1.1.z; have z2 := m2.1.z
  have e1 := m1.2; have e2 := m2.2
  generalize fminB lo 9218868437227405311 = l at *
  generalize fmaxB hi 18442240474082181119 = h at *
  have key : rightB ⟨l, h⟩ = decide (min (fI lo) 9218868437227405311 ≤ max (fI hi) (-9218868437227405311)) := by
    unfold rightB
    rw [decide_eq_decide]
    constructor
    · rintro (he | hr)
      · have := he.1; simp only at this; omega
      · have := hr.2.2.1; simp only at this; omega
    · intro hc
      exact .inr ⟨n1, n2, by simp only; omega, by simp only; omega, by simp only; omega, z1, z2⟩
  rw [key]
  by_cases hc : min (fI lo) 9218868437227405311 ≤ max (fI hi) (-9218868437227405311)
  · rw [if_pos (by rw [decide_eq_true hc]), if_pos hc]
  · rw [if_neg (by rw [decide_eq_false hc]; decide), if_neg hc]
theorem ends_sub {lo hi lo' hi' : Nat} (hl : NumB lo) (hh : NumB hi) (hl' : NumB lo') (hh' : NumB hi') (h1 : fI lo ≤ fI lo') (h2 : fI hi' ≤ fI hi) : SubI (endsI lo' hi') (endsI lo hi) := by
  rw [ends_make hl hh, ends_make hl' hh']
  intro hr
  by_cases hc : min (fI lo') 9218868437227405311 ≤ max (fI hi') (-9218868437227405311)
  · rw [if_pos hc] at hr ⊢
    have m1 := hl.min num_max; have m2 := hh.max num_min
    have m1' := hl'.min num_max; have m2' := hh'.max num_min
    rw [max_I] at m1 m1'
    rw [min_I] at m2 m2'
    rw [if_pos (by omega)]
    refine ⟨⟨m1.1.n, m2.1.n, ?_, ?_, ?_, m1.1.z, m2.1.z⟩, ?_, ?_⟩
    · show fI (fminB _ _) ≤ fI (fmaxB _ _); rw [m1.2, m2.2]; omega
    · show fI (fminB _ _) < _; rw [m1.2]; omega
    · show _ < fI (fmaxB _ _); rw [m2.2]; omega
    · show fI (fminB _ _) ≤ fI (fminB _ _); rw [m1.2, m1'.2]; omega
    · show fI (fmaxB _ _) ≤ fI (fmaxB _ _); rw [m2.2, m2'.2]; omega
  · rw [if_neg hc] at hr
    exact absurd hr notR_emp
/-! ### Sums -/
theorem num_bd {a : Nat} (h : NumB a) : -9218868437227405312 ≤ fI a ∧ fI a ≤ 9218868437227405312 := h.n
theorem rd_mono {P P' : Int} {Q : Nat} (hQ : 0 < Q) (h : P ≤ P') {d : Int} (hd : d = -1 ∨ d = 1) : fI (rd P Q d) ≤ fI (rd P' Q d) := by
  rcases hd with rfl | rfl
  · rw [fI_rd_dn, fI_rd_dn]
    exact dp_mono hQ hQ (Int.mul_le_mul_of_nonneg_right h (by omega))
  · rw [fI_rd_up hQ, fI_rd_up hQ]
    have := dp_mono (P := -P') (P' := -P) hQ hQ (Int.mul_le_mul_of_nonneg_right (by omega) (by omega))
    omega
theorem fin_of {a : Nat} (h1 : -9218868437227405312 < fI a) (h2 : fI a < 9218868437227405312) : isF a := ⟨h1, h2⟩
theorem addX_dn {a b a' b' : Nat} (ha : NumB a) (hb : NumB b) (ha' : NumB a') (hb' : NumB b') (h1 : fI a ≤ fI a') (h2 : fI b ≤ fI b') (l1 : fI a' < 9218868437227405312) (l2 : fI b' < 9218868437227405312) :
    fI (addX a b (-1)) ≤ fI (addX a' b' (-1)) := by
  have bd := num_bd (ha'.add hb' (-1))
  have ba := num_bd ha; have bb := num_bd hb
  by_cases fa : isF a
  · by_cases fb : isF b
    · have fa' : isF a' := ⟨by have := fa.1; omega, l1⟩
      have fb' : isF b' := ⟨by have := fb.1; omega, l2⟩
      unfold addX
      rw [if_pos fa, if_pos fb, if_pos fa', if_pos fb', addB_rd, addB_rd]
      have := fV_mono h1; have := fV_mono h2
      exact rd_mono (by decide) (by omega) (.inl rfl)
    · have e : addX a b (-1) = b := by unfold addX; rw [if_pos fa, if_neg fb]
      have : fI b = -9218868437227405312 := by
        by_cases h : -9218868437227405312 < fI b
        · exact absurd (fin_of h (by omega)) fb
        · omega
      rw [e]; omega
  · have e : addX a b (-1) = a := by unfold addX; rw [if_neg fa]
    have : fI a = -9218868437227405312 := by
      by_cases h : -9218868437227405312 < fI a
      · exact absurd (fin_of h (by omega)) fa
      · omega
    rw [e]; omega
theorem addX_up {a b a' b' : Nat} (ha : NumB a) (hb : NumB b) (ha' : NumB a') (hb' : NumB b') (h1 : fI a' ≤ fI a) (h2 : fI b' ≤ fI b) (l1 : -9218868437227405312 < fI a') (l2 : -9218868437227405312 < fI b') :
    fI (addX a' b' 1) ≤ fI (addX a b 1) := by
  have bd := num_bd (ha'.add hb' 1)
  have ba := num_bd ha; have bb := num_bd hb
  by_cases fa : isF a
  · by_cases fb : isF b
    · have fa' : isF a' := ⟨l1, by have := fa.2; omega⟩
      have fb' : isF b' := ⟨l2, by have := fb.2; omega⟩
      unfold addX
      rw [if_pos fa, if_pos fb, if_pos fa', if_pos fb', addB_rd, addB_rd]
      have := fV_mono h1; have := fV_mono h2
      exact rd_mono (by decide) (by omega) (.inr rfl)
    · have e : addX a b 1 = b := by unfold addX; rw [if_pos fa, if_neg fb]
      have : fI b = 9218868437227405312 := by
        by_cases h : fI b < 9218868437227405312
        · exact absurd (fin_of (by omega) h) fb
        · omega
      rw [e]; omega
  · have e : addX a b 1 = a := by unfold addX; rw [if_neg fa]
    have : fI a = 9218868437227405312 := by
      by_cases h : fI a < 9218868437227405312
      · exact absurd (fin_of (by omega) h) fa
      · omega
    rw [e]; omega
theorem add_sub {p q x y : GIval} (hp : okI p) (hq : okI q) (hx : okI x) (hy : okI y) (h1 : SubI p x) (h2 : SubI q y) : SubI (addI p q) (addI x y) := by
  intro hr
  by_cases hc : RIp p ∧ RIp q
  · obtain ⟨rx, a1, a2⟩ := h1 hc.1
    obtain ⟨ry, b1, b2⟩ := h2 hc.2
    have e1 : addI p q = endsI (addX p.Lo q.Lo (-1)) (addX p.Hi q.Hi 1) := by unfold addI; rw [if_pos hc]
    have e2 : addI x y = endsI (addX x.Lo y.Lo (-1)) (addX x.Hi y.Hi 1) := by unfold addI; rw [if_pos ⟨rx, ry⟩]
    rw [e1] at hr ⊢
    rw [e2]
    have lp := RIp.lo hp hc.1; have lq := RIp.lo hq hc.2; have up := RIp.hi hp hc.1; have uq := RIp.hi hq hc.2
    have lx := RIp.lo hx rx; have ly := RIp.lo hy ry; have ux := RIp.hi hx rx; have uy := RIp.hi hy ry
    exact ends_sub (lx.add ly _) (ux.add uy _) (lp.add lq _) (up.add uq _) (addX_dn lx ly lp lq a1 b1 hc.1.2.2.2.1 hc.2.2.2.2.1) (addX_up ux uy up uq a2 b2 hc.1.2.2.2.2.1 hc.2.2.2.2.2.1) hr
  · have e1 : addI p q = EMP := by unfold addI; rw [if_neg hc]
    rw [e1] at hr
    exact absurd hr notR_emp
/-! ### Products -/
theorem rung0 {a : Nat} (_h : NumB a) : rungB a = 0 ↔ fI a = 0 := by
  have := rung_abs a; omega
theorem fV_zero0 : fV 0 = 0 := by decide
/-- Both finite, a product is the exact one, rounded. -/
theorem mulX_fin {a b : Nat} (d : Int) (fa : isF a) (fb : isF b) : mulX a b d = rd (fV (fI a) * fV (fI b)) (2 ^ 1074) d := by
  have h2 : 0 < 2 ^ 1074 := Nat.two_pow_pos 1074
  unfold mulX
  by_cases hz : rungB a = 0 ∨ rungB b = 0
  · rw [if_pos hz]
    have fz : ∀ {x : Nat}, rungB x = 0 → fV (fI x) = 0 := by
      intro x h; rw [fV_fI, h, fv_zero]; unfold Ieee.signed; simp
    rw [show fV (fI a) * fV (fI b) = 0 from by rcases hz with h | h <;> rw [fz h] <;> simp]
    unfold rd
    rw [Int.natAbs_zero, rnd_zero h2]
  · rw [if_neg hz, if_pos ⟨fa, fb⟩]; rfl
theorem mulX_comm (a b : Nat) (d : Int) : mulX a b d = mulX b a d := by
  unfold mulX
  have e1 : (rungB a = 0 ∨ rungB b = 0) ↔ (rungB b = 0 ∨ rungB a = 0) := Or.comm
  have e2 : (isF a ∧ isF b) ↔ (isF b ∧ isF a) := And.comm
  have e3 : mulB a b d = mulB b a d := by unfold mulB; rw [Int.mul_comm]
  have e4 : (negB a != negB b) = (negB b != negB a) := by cases negB a <;> cases negB b <;> rfl
  simp only [e1, e2, e3, e4]
theorem mulX_inf {a b : Nat} (d : Int) (za : fI a ≠ 0) (zb : fI b ≠ 0) (ha : NumB a) (hb : NumB b) (hf : ¬ (isF a ∧ isF b)) : fI (mulX a b d) = if (decide (fI a < 0) != decide (fI b < 0)) = true then -9218868437227405312 else 9218868437227405312 := by
  unfold mulX
  rw [if_neg (fun h => h.elim (fun h => za ((rung0 ha).1 h)) (fun h => zb ((rung0 hb).1 h))), if_neg hf, fI_infB]
  have ng : ∀ {x : Nat}, fI x ≠ 0 → negB x = decide (fI x < 0) := by
    intro x hx
    have := fI_eq x
    cases hb : negB x with
    | true => rw [hb, if_pos rfl] at this; symm; rw [decide_eq_true_iff]; omega
    | false => rw [hb, if_neg (by decide)] at this; symm; rw [decide_eq_false_iff_not]; omega
  rw [ng za, ng zb]
theorem mulX_zero {a b : Nat} (d : Int) (h : rungB a = 0 ∨ rungB b = 0) : mulX a b d = 0 := by unfold mulX; rw [if_pos h]
/-- With what is not below 0 products grow, with what is not above 0 they shrink. -/
theorem mulX_mono {a a' b : Nat} {d : Int} (hd : d = -1 ∨ d = 1) (ha : NumB a) (ha' : NumB a') (hb : NumB b) (h : fI a ≤ fI a') :
    (0 ≤ fI b → fI (mulX a b d) ≤ fI (mulX a' b d)) ∧ (fI b ≤ 0 → fI (mulX a' b d) ≤ fI (mulX a b d)) := by
  have h2 : 0 < 2 ^ 1074 := Nat.two_pow_pos 1074
  have bd := num_bd (NumB.mul a b d)
  have bd' := num_bd (NumB.mul a' b d)
  have ba := num_bd ha; have ba' := num_bd ha'; have bb := num_bd hb
  by_cases zb : fI b = 0
  · have zr := (rung0 hb).2 zb
    rw [mulX_zero d (.inr zr), mulX_zero d (.inr zr)]
    exact ⟨fun _ => Int.le_refl _, fun _ => Int.le_refl _⟩
  have z0 : fI 0 = 0 := by decide
  by_cases fb : isF b
  · by_cases fa : isF a
    · by_cases fa' : isF a'
      · rw [mulX_fin d fa fb, mulX_fin d fa' fb]
        have hv := fV_mono h
        constructor
        · intro hb0
          have := fV_nonneg hb0
          exact rd_mono h2 (Int.mul_le_mul_of_nonneg_right hv this) hd
        · intro hb0
          have hb1 := fV_mono hb0
          rw [fV_zero0] at hb1
          exact rd_mono h2 (Int.mul_le_mul_of_nonpos_right hv hb1) hd
      · have e : fI a' = 9218868437227405312 := by
          by_cases c : fI a' < 9218868437227405312
          · exact absurd (fin_of (by have := fa.1; omega) c) fa'
          · omega
        rw [mulX_inf d (by omega) zb ha' hb (fun k => fa' k.1)]
        rw [decide_eq_false (show ¬ fI a' < 0 by omega)]
        constructor
        · intro hb0; rw [decide_eq_false (show ¬ fI b < 0 by omega), if_neg (by decide)]; omega
        · intro hb0; rw [decide_eq_true (show fI b < 0 by omega), if_pos (by decide)]; omega
    · by_cases c : fI a < 0
      · have e : fI a = -9218868437227405312 := by
          by_cases c2 : -9218868437227405312 < fI a
          · exact absurd (fin_of c2 (by omega)) fa
          · omega
        rw [mulX_inf d (by omega) zb ha hb (fun k => fa k.1), decide_eq_true c]
        constructor
        · intro hb0; rw [decide_eq_false (show ¬ fI b < 0 by omega), if_pos (by decide)]; omega
        · intro hb0; rw [decide_eq_true (show fI b < 0 by omega), if_neg (by decide)]; omega
      · have e : fI a = 9218868437227405312 := by
          by_cases c2 : fI a < 9218868437227405312
          · exact absurd (fin_of (by omega) c2) fa
          · omega
        have : a' = a := fI_inj ha'.z ha.z (by omega)
        subst this
        exact ⟨fun _ => Int.le_refl _, fun _ => Int.le_refl _⟩
  · -- b infinite
    have nf : ∀ x, ¬ (isF x ∧ isF b) := fun x k => fb k.2
    by_cases ca : fI a = 0
    · rw [mulX_zero d (.inl ((rung0 ha).2 ca)), z0]
      by_cases ca' : fI a' = 0
      · rw [mulX_zero d (.inl ((rung0 ha').2 ca')), z0]; exact ⟨fun _ => Int.le_refl _, fun _ => Int.le_refl _⟩
      · rw [mulX_inf d ca' zb ha' hb (nf _), decide_eq_false (show ¬ fI a' < 0 by omega)]
        constructor
        · intro hb0; rw [decide_eq_false (show ¬ fI b < 0 by omega), if_neg (by decide)]; omega
        · intro hb0; rw [decide_eq_true (show fI b < 0 by omega), if_pos (by decide)]; omega
    · rw [mulX_inf d ca zb ha hb (nf _)]
      by_cases cn : fI a < 0
      · rw [decide_eq_true cn]
        constructor
        · intro hb0; rw [decide_eq_false (show ¬ fI b < 0 by omega), if_pos (by decide)]; omega
        · intro hb0; rw [decide_eq_true (show fI b < 0 by omega), if_neg (by decide)]; omega
      · rw [mulX_inf d (by omega) zb ha' hb (nf _), decide_eq_false cn, decide_eq_false (show ¬ fI a' < 0 by omega)]
        exact ⟨fun _ => Int.le_refl _, fun _ => Int.le_refl _⟩
theorem mulX_between {lo hi c b : Nat} {d : Int} (hd : d = -1 ∨ d = 1) (hl : NumB lo) (hh : NumB hi) (hc : NumB c) (hb : NumB b) (h1 : fI lo ≤ fI c) (h2 : fI c ≤ fI hi) :
    min (fI (mulX lo b d)) (fI (mulX hi b d)) ≤ fI (mulX c b d) ∧ fI (mulX c b d) ≤ max (fI (mulX lo b d)) (fI (mulX hi b d)) := by
  have m1 := mulX_mono (b := b) hd hl hc hb h1
  have m2 := mulX_mono (b := b) hd hc hh hb h2
  by_cases h : 0 ≤ fI b
  · have a1 := m1.1 h; have a2 := m2.1 h; omega
  · have a1 := m1.2 (by omega); have a2 := m2.2 (by omega); omega
theorem fI_loM (x y : GIval) : fI (loM x y) = min (min (min (min 9218868437227405312 (fI (mulX x.Lo y.Lo (-1)))) (fI (mulX x.Lo y.Hi (-1)))) (fI (mulX x.Hi y.Lo (-1)))) (fI (mulX x.Hi y.Hi (-1))) := by
  have n1 := num_i0.min (NumB.mul x.Lo y.Lo (-1))
  have n2 := n1.1.min (NumB.mul x.Lo y.Hi (-1))
  have n3 := n2.1.min (NumB.mul x.Hi y.Lo (-1))
  have n4 := n3.1.min (NumB.mul x.Hi y.Hi (-1))
  unfold loM
  rw [n4.2, n3.2, n2.2, n1.2, fI_inf.1]
theorem fI_hiM (x y : GIval) : fI (hiM x y) = max (max (max (max (-9218868437227405312) (fI (mulX x.Lo y.Lo 1))) (fI (mulX x.Lo y.Hi 1))) (fI (mulX x.Hi y.Lo 1))) (fI (mulX x.Hi y.Hi 1)) := by
  have n1 := num_i1.max (NumB.mul x.Lo y.Lo 1)
  have n2 := n1.1.max (NumB.mul x.Lo y.Hi 1)
  have n3 := n2.1.max (NumB.mul x.Hi y.Lo 1)
  have n4 := n3.1.max (NumB.mul x.Hi y.Hi 1)
  unfold hiM
  rw [n4.2, n3.2, n2.2, n1.2, fI_inf.2]
/-- What lies in two intervals has its product between the corners'. -/
theorem corner {x y : GIval} (hx : okI x) (hy : okI y) (rx : RIp x) (ry : RIp y) {a b : Nat} (ha : NumB a) (hb : NumB b) (a1 : fI x.Lo ≤ fI a) (a2 : fI a ≤ fI x.Hi) (b1 : fI y.Lo ≤ fI b) (b2 : fI b ≤ fI y.Hi) :
    fI (loM x y) ≤ fI (mulX a b (-1)) ∧ fI (mulX a b 1) ≤ fI (hiM x y) := by
  have lx := RIp.lo hx rx; have ly := RIp.lo hy ry; have ux := RIp.hi hx rx; have uy := RIp.hi hy ry
  rw [fI_loM, fI_hiM]
  constructor
  · have k1 := (mulX_between (d := -1) (.inl rfl) lx ux ha hb a1 a2).1
    have k2 := (mulX_between (d := -1) (.inl rfl) ly uy hb lx b1 b2).1
    have k3 := (mulX_between (d := -1) (.inl rfl) ly uy hb ux b1 b2).1
    rw [mulX_comm y.Lo x.Lo, mulX_comm y.Hi x.Lo, mulX_comm b x.Lo] at k2
    rw [mulX_comm y.Lo x.Hi, mulX_comm y.Hi x.Hi, mulX_comm b x.Hi] at k3
    omega
  · have k1 := (mulX_between (d := 1) (.inr rfl) lx ux ha hb a1 a2).2
    have k2 := (mulX_between (d := 1) (.inr rfl) ly uy hb lx b1 b2).2
    have k3 := (mulX_between (d := 1) (.inr rfl) ly uy hb ux b1 b2).2
    rw [mulX_comm y.Lo x.Lo, mulX_comm y.Hi x.Lo, mulX_comm b x.Lo] at k2
    rw [mulX_comm y.Lo x.Hi, mulX_comm y.Hi x.Hi, mulX_comm b x.Hi] at k3
    omega
theorem mul_sub {p q x y : GIval} (hp : okI p) (hq : okI q) (hx : okI x) (hy : okI y) (h1 : SubI p x) (h2 : SubI q y) : SubI (mulI p q) (mulI x y) := by
  intro hr
  by_cases hc : RIp p ∧ RIp q
  · obtain ⟨rx, a1, a2⟩ := h1 hc.1
    obtain ⟨ry, b1, b2⟩ := h2 hc.2
    have e1 : mulI p q = endsI (loM p q) (hiM p q) := by unfold mulI; rw [if_pos hc]
    have e2 : mulI x y = endsI (loM x y) (hiM x y) := by unfold mulI; rw [if_pos ⟨rx, ry⟩]
    rw [e1] at hr ⊢
    rw [e2]
    have lp := RIp.lo hp hc.1; have lq := RIp.lo hq hc.2; have up := RIp.hi hp hc.1; have uq := RIp.hi hq hc.2
    have op := hc.1.2.2.1; have oq := hc.2.2.2.1
    have c1 := corner hx hy rx ry lp lq a1 (by omega) b1 (by omega)
    have c2 := corner hx hy rx ry lp uq a1 (by omega) (by omega) b2
    have c3 := corner hx hy rx ry up lq (by omega) a2 b1 (by omega)
    have c4 := corner hx hy rx ry up uq (by omega) a2 (by omega) b2
    have bx := num_bd (num_loM x y); have bx' := num_bd (num_hiM x y)
    refine ends_sub (num_loM x y) (num_hiM x y) (num_loM p q) (num_hiM p q) ?_ ?_ hr
    · rw [fI_loM p q]; omega
    · rw [fI_hiM p q]; omega
  · have e1 : mulI p q = EMP := by unfold mulI; rw [if_neg hc]
    rw [e1] at hr
    exact absurd hr notR_emp
/-! ### 0 and 1 -/
theorem dp_scaled {Q : Nat} (hQ : 0 < Q) {i : Int} (h1 : -9218868437227405312 < i) (h2 : i < 9218868437227405312) : dp (fV i * Q) Q = i := by
  have r := dp_range (fV i * Q) Q
  have key : ∀ j : Int, -9218868437227405311 ≤ j → j ≤ 9218868437227405311 → (j ≤ dp (fV i * Q) Q ↔ j ≤ i) := fun j a b => by
    rw [le_dp hQ a b, Int.mul_le_mul_right (by omega), fV_le_iff]
  have k1 := (key i (by omega) (by omega)).2 (Int.le_refl _)
  have k2 := (key (dp (fV i * Q) Q) (by omega) (by omega)).1 (Int.le_refl _)
  omega
theorem rd_word {Q : Nat} (hQ : 0 < Q) {b : Nat} (hb : NumB b) (fb : isF b) {d : Int} (hd : d = -1 ∨ d = 1) : rd (fV (fI b) * Q) Q d = b := by
  refine fI_inj (rd_num _ _ _).z hb.z ?_
  rcases hd with rfl | rfl
  · rw [fI_rd_dn, dp_scaled hQ fb.1 fb.2]
  · rw [fI_rd_up hQ, ← Int.neg_mul, ← fV_neg, dp_scaled hQ (by have := fb.2; omega) (by have := fb.1; omega)]; omega
theorem addX_zero {b : Nat} (hb : NumB b) {d : Int} (hd : d = -1 ∨ d = 1) : addX 0 b d = b ∧ addX b 0 d = b := by
  have f0 : isF 0 := by decide
  have z0 : fI 0 = 0 := by decide
  by_cases fb : isF b
  · have e1 : addX 0 b d = addB 0 b d := by unfold addX; rw [if_pos f0, if_pos fb]
    have e2 : addX b 0 d = addB b 0 d := by unfold addX; rw [if_pos fb, if_pos f0]
    have := rd_word (Q := 1) (by decide) hb fb hd
    rw [e1, e2, addB_rd, addB_rd, z0, fV_zero0, Int.zero_add, Int.add_zero]
    simp only [Int.natCast_one, Int.mul_one] at this
    exact ⟨this, this⟩
  · unfold addX
    rw [if_pos f0, if_neg fb, if_neg fb]; exact ⟨rfl, rfl⟩
theorem fV_one : fV (fI 4607182418800017408) = ((2 ^ 1074 : Nat) : Int) := by
  rw [show fI 4607182418800017408 = ((4607182418800017408 : Nat) : Int) from rfl, fV_nat]
  congr 1
theorem mulX_one {b : Nat} (hb : NumB b) {d : Int} (hd : d = -1 ∨ d = 1) : mulX 4607182418800017408 b d = b := by
  have f1 : isF 4607182418800017408 := by decide
  by_cases fb : isF b
  · rw [mulX_fin d f1 fb, fV_one, Int.mul_comm]
    exact rd_word (Nat.two_pow_pos 1074) hb fb hd
  · obtain ⟨s, rfl⟩ := inf_cases hb fb
    unfold mulX
    rw [if_neg (by rw [rungB_inf]; decide), if_neg (fun k => fb k.2), negB_inf]
    cases s <;> rfl
theorem ends_own {x : GIval} (hx : okI x) (r : RIp x) : endsI x.Lo x.Hi = x := by
  have lx := RIp.lo hx r; have ux := RIp.hi hx r
  have h1 := r.2.2.1; have h2 := r.2.2.2.1; have h3 := r.2.2.2.2.1
  have m1 := lx.min num_max; have m2 := ux.max num_min
  rw [max_I] at m1
  rw [min_I] at m2
  rw [ends_make lx ux, if_pos (by omega)]
  have e1 : fminB x.Lo 9218868437227405311 = x.Lo := fI_inj m1.1.z lx.z (by rw [m1.2]; omega)
  have e2 : fmaxB x.Hi 18442240474082181119 = x.Hi := fI_inj m2.1.z ux.z (by rw [m2.2]; omega)
  rw [e1, e2]
def ZI : GIval := ⟨0, 0⟩
def OI : GIval := ⟨4607182418800017408, 4607182418800017408⟩
theorem pt_zero : ptI 0 = ZI := by unfold ptI makeI; rw [if_pos (by decide)]; rfl
theorem pt_one : ptI 4607182418800017408 = OI := by unfold ptI makeI; rw [if_pos (by decide)]; rfl
theorem r_zero : RIp ZI := by decide
theorem r_one : RIp OI := by decide
theorem ok_ZI : okI ZI := by unfold okI ZI; decide
theorem add_zeroI {x : GIval} (hx : okI x) (r : RIp x) : addI ZI x = x ∧ addI x ZI = x := by
  have lx := RIp.lo hx r; have ux := RIp.hi hx r
  unfold addI
  rw [if_pos ⟨r_zero, r⟩, if_pos ⟨r, r_zero⟩]
  show endsI (addX 0 x.Lo (-1)) (addX 0 x.Hi 1) = x ∧ endsI (addX x.Lo 0 (-1)) (addX x.Hi 0 1) = x
  rw [(addX_zero lx (.inl rfl)).1, (addX_zero ux (.inr rfl)).1, (addX_zero lx (.inl rfl)).2, (addX_zero ux (.inr rfl)).2, ends_own hx r]
  exact ⟨rfl, rfl⟩
theorem mul_oneI {x : GIval} (hx : okI x) (r : RIp x) : mulI OI x = x := by
  have lx := RIp.lo hx r; have ux := RIp.hi hx r
  have h1 := r.2.2.1
  have b1 := num_bd lx; have b2 := num_bd ux
  unfold mulI
  rw [if_pos ⟨r_one, r⟩]
  have e1 : loM OI x = x.Lo := by
    refine fI_inj (num_loM _ _).z lx.z ?_
    rw [fI_loM]
    show min (min (min (min _ (fI (mulX 4607182418800017408 x.Lo (-1)))) (fI (mulX 4607182418800017408 x.Hi (-1)))) (fI (mulX 4607182418800017408 x.Lo (-1)))) (fI (mulX 4607182418800017408 x.Hi (-1))) = _
    rw [mulX_one lx (.inl rfl), mulX_one ux (.inl rfl)]; omega
  have e2 : hiM OI x = x.Hi := by
    refine fI_inj (num_hiM _ _).z ux.z ?_
    rw [fI_hiM]
    show max (max (max (max _ (fI (mulX 4607182418800017408 x.Lo 1))) (fI (mulX 4607182418800017408 x.Hi 1))) (fI (mulX 4607182418800017408 x.Lo 1))) (fI (mulX 4607182418800017408 x.Hi 1)) = _
    rw [mulX_one lx (.inr rfl), mulX_one ux (.inr rfl)]; omega
  rw [e1, e2, ends_own hx r]
theorem mul_zeroI {x : GIval} (r : RIp x) : mulI ZI x = ZI := by
  unfold mulI
  rw [if_pos ⟨r_zero, r⟩]
  have z : ∀ b d, mulX 0 b d = 0 := fun b d => mulX_zero d (.inl rfl)
  have e1 : loM ZI x = 0 := by
    refine fI_inj (num_loM _ _).z (by decide) ?_
    rw [fI_loM]
    show min (min (min (min _ (fI (mulX 0 x.Lo (-1)))) (fI (mulX 0 x.Hi (-1)))) (fI (mulX 0 x.Lo (-1)))) (fI (mulX 0 x.Hi (-1))) = _
    rw [z, z]; decide
  have e2 : hiM ZI x = 0 := by
    refine fI_inj (num_hiM _ _).z (by decide) ?_
    rw [fI_hiM]
    show max (max (max (max _ (fI (mulX 0 x.Lo 1))) (fI (mulX 0 x.Hi 1))) (fI (mulX 0 x.Lo 1))) (fI (mulX 0 x.Hi 1)) = _
    rw [z, z]; decide
  rw [e1, e2]
  exact ends_own ok_ZI r_zero
end Go.Sim.Ytlglkgineclggaa
