/- What is proved: value.round yields the word of the exact amount, rounded. -/
import Derived.Test.YtlkpbnhinnhlfaaGreatZLFFltD

namespace Go.Sim.YtlkpbnhinnhlfaaGreat
open Go.RowKit Go.Proofs Go.Proofs.Tryz
/-- Only the sign of the direction counts. -/
theorem upR_sign {k A B : Nat} {d d' : Int} (h1 : 0 < d ↔ 0 < d') (h2 : d = 0 ↔ d' = 0) : upR k A B d ↔ upR k A B d' := by
  unfold upR; rw [h1, h2]
theorem rnd_sign {s : Bool} {A B : Nat} {d d' : Int} (h1 : 0 < d ↔ 0 < d') (h2 : d = 0 ↔ d' = 0) : rnd s A B d = rnd s A B d' := by
  have key : ∀ x y : Int, (0 < x ↔ 0 < y) → (x = 0 ↔ y = 0) → capR s (rndR A B x) x = capR s (rndR A B y) y := by
    intro x y h1 h2
    have e : rndR A B x = rndR A B y := by
      unfold rndR
      by_cases hu : upR (fr (A / B)) A B x
      · rw [if_pos hu, if_pos ((upR_sign h1 h2).1 hu)]
      · rw [if_neg hu, if_neg (fun h => hu ((upR_sign h1 h2).2 h))]
    rw [e]
    unfold capR
    have e2 : (0 ≤ x ↔ 0 ≤ y) := by omega
    simp only [e2]
  unfold rnd
  cases s with
  | true => exact key _ _ (by simp only [if_true]; omega) (by simp only [if_true]; omega)
  | false => exact key _ _ (by simpa using h1) (by simpa using h2)
theorem rnd_zero {s : Bool} {B : Nat} {d : Int} (hB : 0 < B) : rnd s 0 B d = 0 := by
  have key : ∀ x : Int, capR s (rndR 0 B x) x = 0 := by
    intro x
    have h0 : fr (0 / B) = 0 := by rw [Nat.zero_div]; exact fr_uniq (by simp [fv_zero]) (by decide)
    have : rndR 0 B x = 0 := by
      unfold rndR
      rw [h0, if_neg]
      unfold upR
      rw [fv_zero, Nat.zero_mul]
      have : 0 < fv (0 + 1) * B := Nat.mul_pos (by decide) hB
      rw [Nat.zero_add] at this ⊢
      omega
    rw [this]; rfl
  unfold rnd; exact key _
/-- What 'round' is given: an amount A / B, of which (hi 2^64 + lo) units are whole. -/
structure Amount (v : Gulpvalue) (hi lo N : Nat) (A B : Nat) : Prop where
  hN : N = hi * 18446744073709551616 + lo
  hh : v.hi_ = (hi : Int)
  hl : v.lo_ = (lo : Int)
  h1 : hi < 18446744073709551616
  h2 : lo < 18446744073709551616
  he : -10000 ≤ v.e_ ∧ v.e_ ≤ 10000
  hB : 0 < B
  un : ∃ U n1 n2 : Nat, U * 2 ^ n1 = B * 2 ^ n2 ∧ v.e_ + 1074 = (n2 : Int) - n1 ∧ N * U ≤ A ∧ A < (N + 1) * U ∧ (v.more_ = true ↔ A ≠ N * U)
  hm : v.more_ = true → 18014398509481984 ≤ N
/-- The rung below, and what the rest tells of the way up. -/
theorem round_core {v : Gulpvalue} {hi lo N A B s : Nat} (h : Amount v hi lo N A B) (hs0 : 1 ≤ s) (hs : (s : Int) = max ((blen N : Int) - 53) (-1074 - v.e_)) :
    N / 2 ^ s < 9007199254740992 ∧ (4503599627370496 ≤ N / 2 ^ s ∨ v.e_ + s = -1074) ∧ -1074 ≤ v.e_ + s ∧
      fr (A / B) = (v.e_ + s + 1074).toNat * 4503599627370496 + N / 2 ^ s ∧
      ∀ d : Int, upR (fr (A / B)) A B d ↔ (0 < d ∧ 0 < lostC (N % 2 ^ s) (2 ^ (s - 1)) v.more_) ∨
        (d = 0 ∧ (lostC (N % 2 ^ s) (2 ^ (s - 1)) v.more_ = 3 ∨ (lostC (N % 2 ^ s) (2 ^ (s - 1)) v.more_ = 2 ∧ N / 2 ^ s % 2 = 1))) := by
  obtain ⟨U, n1, n2, u1, u2, u3, u4, u5⟩ := h.un
  have hB := h.hB
  have he := h.he
  have hp := Nat.two_pow_pos s
  have hb := blen_lt N
  have q1 : N / 2 ^ s < 9007199254740992 := by
    rw [Nat.div_lt_iff_lt_mul hp, show (9007199254740992 : Nat) = 2 ^ 53 by decide, ← Nat.pow_add]
    exact Nat.lt_of_lt_of_le hb (Nat.pow_le_pow_right (by omega) (by omega))
  have q2 : 4503599627370496 ≤ N / 2 ^ s ∨ v.e_ + s = -1074 := by
    by_cases hc : (s : Int) = -1074 - v.e_
    · right; omega
    · left
      have hb54 : (blen N : Int) = s + 53 := by omega
      have hN0 : N ≠ 0 := by intro e; rw [e, blen_zero] at hb54; omega
      rw [Nat.le_div_iff_mul_le hp, show (4503599627370496 : Nat) = 2 ^ 52 by decide, ← Nat.pow_add]
      refine Nat.le_trans (Nat.pow_le_pow_right (by omega) (by omega)) (blen_ge hN0)
  refine ⟨q1, q2, by omega, ?_⟩
  generalize ht : (v.e_ + s + 1074).toNat = t
  have hUB : 2 ^ t * B = 2 ^ s * U := by
    have e1 : t + n1 = n2 + s := by omega
    have e2 : 2 ^ t * B * 2 ^ n2 = 2 ^ s * U * 2 ^ n2 := by
      rw [Nat.mul_assoc, ← u1, Nat.mul_comm U, ← Nat.mul_assoc, ← Nat.pow_add, e1, Nat.pow_add]
      rw [Nat.mul_comm (2 ^ n2), Nat.mul_right_comm]
    exact Nat.eq_of_mul_eq_mul_right (Nat.two_pow_pos n2) e2
  have hdm := Nat.div_add_mod N (2 ^ s)
  have hml := Nat.mod_lt N hp
  have hpow : 2 ^ s = 2 * 2 ^ (s - 1) := by rw [← Nat.pow_succ']; congr 1; omega
  generalize hq : N / 2 ^ s = q at *
  generalize hr : N % 2 ^ s = r at *
  generalize 2 ^ (s - 1) = H at *
  generalize 2 ^ s = G at *
  have f1 : fv (t * 4503599627370496 + q) = q * 2 ^ t := fv_mk (by omega) (q2.imp id (fun h => by omega))
  have f2 : fv (t * 4503599627370496 + q + 1) = (q + 1) * 2 ^ t := by rw [Nat.add_assoc]; exact fv_mk (by omega) (q2.imp (fun _ => by omega) (fun h => by omega))
  have g1 : fv (t * 4503599627370496 + q) * B = G * q * U := by rw [f1, Nat.mul_assoc, hUB, ← Nat.mul_assoc, Nat.mul_comm q]
  have g2 : fv (t * 4503599627370496 + q + 1) * B = G * (q + 1) * U := by rw [f2, Nat.mul_assoc, hUB, ← Nat.mul_assoc, Nat.mul_comm (q + 1)]
  have hU : 0 < U := by
    rcases Nat.eq_zero_or_pos U with e | e
    · rw [e] at u4; omega
    · exact e
  have mle : ∀ {a b : Nat}, a ≤ b → a * U ≤ b * U := fun h => Nat.mul_le_mul_right _ h
  have k1 : fv (t * 4503599627370496 + q) * B ≤ A := by rw [g1]; exact Nat.le_trans (mle (by omega)) u3
  have k2 : A < fv (t * 4503599627370496 + q + 1) * B := by
    rw [g2]; refine Nat.lt_of_lt_of_le u4 (mle ?_)
    rw [Nat.mul_add]; omega
  have hfr := fr_quot hB k1 k2
  refine ⟨hfr, fun d => ?_⟩
  rw [hfr]
  unfold upR
  have c0 : fv (t * 4503599627370496 + q) * B ≠ A ↔ 0 < lostC r H v.more_ := by
    rw [g1]
    unfold lostC
    constructor
    · intro hne
      split
      · split <;> omega
      · rename_i hlt
        rw [if_neg]
        · omega
        · rintro ⟨hr0, hm0⟩
          have : A = N * U := by
            by_cases e : A = N * U
            · exact e
            · rw [u5.2 e] at hm0; cases hm0
          exact hne (by rw [this]; congr 1; omega)
    · intro hl e
      have hrm : r = 0 ∧ v.more_ = false := by
        have h3 : N ≤ G * q := by
          by_cases h4 : N ≤ G * q
          · exact h4
          · have := mle (show G * q + 1 ≤ N by omega)
            rw [Nat.add_mul] at this; omega
        refine ⟨by omega, ?_⟩
        cases hm : v.more_ with
        | false => rfl
        | true => exact absurd (by rw [← e]; congr 1; omega) (u5.1 hm)
      rw [if_neg (by omega), if_pos hrm] at hl
      omega
  have sum : (fv (t * 4503599627370496 + q) + fv (t * 4503599627370496 + q + 1)) * B = 2 * ((G * q + H) * U) := by
    rw [Nat.add_mul, g1, g2, Nat.mul_add, Nat.mul_one, Nat.add_mul, Nat.add_mul, hpow]
    generalize 2 * H * q * U = X
    rw [Nat.mul_assoc 2 H U]; omega
  have c3 : (G * q + H) * U < A ↔ lostC r H v.more_ = 3 := by
    unfold lostC
    constructor
    · intro hlt
      have h3 : H ≤ r := by
        by_cases h4 : H ≤ r
        · exact h4
        · have := mle (show N + 1 ≤ G * q + H by omega)
          omega
      rw [if_pos h3, if_neg]
      rintro ⟨hr0, hm0⟩
      have : A = N * U := by
        by_cases e : A = N * U
        · exact e
        · rw [u5.2 e] at hm0; cases hm0
      rw [this, show N = G * q + H by omega] at hlt
      omega
    · intro hl
      split at hl
      · rename_i h3
        split at hl
        · cases hl
        · rename_i h4
          by_cases h5 : r = H
          · have hm : v.more_ = true := by
              cases hm : v.more_ with
              | true => rfl
              | false => exact absurd ⟨h5, hm⟩ h4
            have := u5.1 hm
            rw [show G * q + H = N by omega]; omega
          · have := mle (show G * q + H + 1 ≤ N by omega)
            rw [Nat.add_mul] at this; omega
      · split at hl <;> cases hl
  have c2 : (G * q + H) * U = A ↔ lostC r H v.more_ = 2 := by
    unfold lostC
    constructor
    · intro e
      have h3 : N = G * q + H := by
        have a1 : ¬ G * q + H + 1 ≤ N := fun h => by have := mle h; rw [Nat.add_mul] at this; omega
        have a2 : ¬ N + 1 ≤ G * q + H := fun h => by have := mle h; omega
        omega
      have hm : v.more_ = false := by
        cases hm : v.more_ with
        | false => rfl
        | true => exact absurd (by rw [← e, h3]) (u5.1 hm)
      rw [if_pos (by omega), if_pos ⟨by omega, hm⟩]
    · intro hl
      split at hl
      · split at hl
        · rename_i h4
          have : A = N * U := by
            by_cases e : A = N * U
            · exact e
            · rw [u5.2 e] at h4; cases h4.2
          rw [this]; congr 1; omega
        · cases hl
      · split at hl <;> cases hl
  have podd : (t * 4503599627370496 + q) % 2 = q % 2 := by omega
  rw [sum, podd, c0, ← c3, ← c2]
  generalize (G * q + H) * U = X
  omega
theorem round_ev {v : Gulpvalue} {hi lo N A B : Nat} {dir : Int} (h : Amount v hi lo N A B) : Ev_ulp_value_round v dir (rnd v.neg_ A B dir) := by
  have hd1 : 0 < dir ↔ 0 < opMinI (opMaxI dir (-1)) 1 := by unfold opMinI opMaxI; split <;> split <;> omega
  have hd2 : dir = 0 ↔ opMinI (opMaxI dir (-1)) 1 = 0 := by unfold opMinI opMaxI; split <;> split <;> omega
  have hd3 : -1 ≤ opMinI (opMaxI dir (-1)) 1 ∧ opMinI (opMaxI dir (-1)) 1 ≤ 1 := by unfold opMinI opMaxI; split <;> split <;> omega
  rw [rnd_sign hd1 hd2]
  refine walk_ulp_value_round ?_
  unfold W_ulp_value_round
  refine Let.as _ rfl (Let.as _ rfl ?_)
  generalize opMinI (opMaxI dir (-1)) 1 = c at hd3 ⊢
  have hN := h.hN
  have hh := h.hh
  have hl := h.hl
  have hlen := len_ev v hi lo hh hl h.h1 h.h2
  have hshift := fun (n : Nat) a b c d => shifted_ev v hi lo n hh hl h.h1 h.h2 a b c d
  rw [← hN] at hlen
  rw [← hN] at hshift
  have h1 := h.h1
  have h2 := h.h2
  have he := h.he
  have hhm := h.hm
  rw [hh, hl]
  refine ⟨fun x => x = decide (N = 0 ∧ v.more_ = false), ?_, fun x hx => ?_⟩
  · refine Br.e (fun a => Br.e (fun b => ?_) (fun b => ?_)) (fun a => ?_)
    · have e : N = 0 := by omega
      cases v.more_ <;> simp [e]
    · show _ = _; symm; rw [decide_eq_false_iff_not]; omega
    · show _ = _; symm; rw [decide_eq_false_iff_not]; omega
  · subst hx
    refine Br.d (fun hz => ?_) (fun hz => ?_)
    · obtain ⟨U, n1, n2, _, _, u3, u4, u5⟩ := h.un
      have : A = 0 := by
        by_cases e : A = N * U
        · rw [e, hz.1, Nat.zero_mul]
        · have := u5.2 e; rw [hz.2] at this; cases this
      rw [this, rnd_zero h.hB]
    · have hN128 : N < 2 ^ 128 := by rw [hN]; omega
      have hb128 := (blen_le _ 128).2 hN128
      refine Call.mk hlen (Let.as ((blen N : Int) - 53) (wi (by omega) (by omega)) (Let.as (-1074 - v.e_) (wi (by omega) (by omega)) ?_))
      refine Let.as (max ((blen N : Int) - 53) (-1074 - v.e_)) (by unfold opMaxI; split <;> omega) ?_
      -- the rung, and whether the one above it is taken
      have key : ∃ (q : Nat) (l : Int), q < 9007199254740992 ∧ (4503599627370496 ≤ q ∨ v.e_ + max ((blen N : Int) - 53) (-1074 - v.e_) = -1074) ∧
          fr (A / B) = (v.e_ + max ((blen N : Int) - 53) (-1074 - v.e_) + 1074).toNat * 4503599627370496 + q ∧
          (∀ d : Int, upR (fr (A / B)) A B d ↔ (0 < d ∧ 0 < l) ∨ (d = 0 ∧ (l = 3 ∨ (l = 2 ∧ q % 2 = 1)))) ∧
          ∀ J : Int → Int → Prop, J q l → Br (decide (max ((blen N : Int) - 53) (-1074 - v.e_) > (0 : Int))) (
            Call (Ev_ulp_value_shifted v (max ((blen N : Int) - 53) (-1074 - v.e_))) fun x19 => J x19.1 x19.2) (
            Let (IntKind.i64.wrap (0 - max ((blen N : Int) - 53) (-1074 - v.e_))) fun x21 =>
            Nn x21 <|
            Let (IntKind.u64.wrap ((lo : Int) * 2 ^ (min (Int.toNat x21) 64))) fun x22 =>
            Br v.more_ (J x22 (1 : Int)) (J x22 (0 : Int))) := by
        by_cases hs : 0 < max ((blen N : Int) - 53) (-1074 - v.e_)
        · obtain ⟨s, hse⟩ : ∃ s : Nat, (s : Int) = max ((blen N : Int) - 53) (-1074 - v.e_) := ⟨(max ((blen N : Int) - 53) (-1074 - v.e_)).toNat, by omega⟩
          obtain ⟨r1, r2, r3, r4, r5⟩ := round_core h (s := s) (by omega) hse
          rw [← hse]
          refine ⟨_, _, r1, r2, r4, r5, fun J hJ => Br.dT (by omega) (Call.mk (hshift s (by omega) (by omega) ?_ (by omega)) hJ)⟩
          cases hm : v.more_ with
          | true => exact .inr rfl
          | false => exact .inl (fun e => hz ⟨e, hm⟩)
        · have hm : v.more_ = false := by
            cases hm : v.more_ with
            | false => rfl
            | true =>
              have := hhm hm
              have h3 := (blen_le N 53).1 (by omega)
              simp only [Nat.reducePow] at h3
              omega
          obtain ⟨m, hme⟩ : ∃ m : Nat, (m : Int) = -(max ((blen N : Int) - 53) (-1074 - v.e_)) := ⟨(-(max ((blen N : Int) - 53) (-1074 - v.e_))).toNat, by omega⟩
          have h53 := (blen_le N 53).1 (by omega)
          simp only [Nat.reducePow] at h53
          have hi0 : hi = 0 := by omega
          subst hi0
          have hNlo : N = lo := by omega
          subst hNlo
          have hlo0 : N ≠ 0 := fun e => hz ⟨e, hm⟩
          have hbl := blen_lt N
          have hbg := blen_ge hlo0
          have hmb : m + blen N ≤ 53 := by omega
          have hb1 : 1 ≤ blen N := by rw [blen_pos hlo0]; omega
          have q1 : N * 2 ^ m < 9007199254740992 := by
            have a1 : N * 2 ^ m < 2 ^ blen N * 2 ^ m := Nat.mul_lt_mul_of_pos_right hbl (Nat.two_pow_pos m)
            rw [← Nat.pow_add] at a1
            have a2 : 2 ^ (blen N + m) ≤ 2 ^ 53 := Nat.pow_le_pow_right (by omega) (by omega)
            simp only [Nat.reducePow] at a2
            exact Nat.lt_of_lt_of_le a1 a2
          have q2 : 4503599627370496 ≤ N * 2 ^ m ∨ v.e_ + max ((blen N : Int) - 53) (-1074 - v.e_) = -1074 := by
            by_cases hc : max ((blen N : Int) - 53) (-1074 - v.e_) = -1074 - v.e_
            · right; omega
            · left
              have a1 : 2 ^ (blen N - 1) * 2 ^ m ≤ N * 2 ^ m := Nat.mul_le_mul_right _ hbg
              rw [← Nat.pow_add, show blen N - 1 + m = 52 by omega] at a1
              simpa using a1
          obtain ⟨U, n1, n2, u1, u2, u3, u4, u5⟩ := h.un
          have hA : A = N * U := by
            by_cases e : A = N * U
            · exact e
            · have := u5.2 e; rw [hm] at this; cases this
          generalize ht : (v.e_ + max ((blen N : Int) - 53) (-1074 - v.e_) + 1074).toNat = t
          have hUB : 2 ^ (t + m) * B = U := by
            have e1 : n2 = t + m + n1 := by omega
            rw [e1, Nat.pow_add _ (t + m) n1, ← Nat.mul_assoc] at u1
            have := Nat.eq_of_mul_eq_mul_right (Nat.two_pow_pos n1) u1
            rw [this, Nat.mul_comm]
          have f1 : fv (t * 4503599627370496 + N * 2 ^ m) = N * 2 ^ m * 2 ^ t := fv_mk (by omega) (q2.imp id (fun h => by omega))
          have g1 : fv (t * 4503599627370496 + N * 2 ^ m) * B = A := by
            rw [f1, hA, ← hUB, Nat.mul_assoc N, ← Nat.pow_add, Nat.mul_assoc, Nat.add_comm m t]
          have g2 := Nat.mul_lt_mul_of_pos_right (fv_step (t * 4503599627370496 + N * 2 ^ m)) h.hB
          have hfr := fr_quot h.hB (Nat.le_of_eq g1) (by rw [g1] at g2; exact g2)
          refine ⟨N * 2 ^ m, 0, q1, q2, hfr, fun d => ?_, fun J hJ => Br.dF (by omega) (Let.as (m : Int) (by rw [wi (by omega) (by omega)]; omega) ⟨by omega, Let.as _ (shlN N m (by omega)) (Br.f hm ?_)⟩)⟩
          · rw [hfr]
            unfold upR
            rw [g1] at g2 ⊢
            rw [Nat.add_mul, g1]
            omega
          · rw [Nat.mod_eq_of_lt (by omega)]; exact hJ
      obtain ⟨q, l, k1, k2, k3, k4, k5⟩ := key
      have hup := k4 (if v.neg_ = true then -c else c)
      generalize hS : max ((blen N : Int) - 53) (-1074 - v.e_) = S at *
      have hSlo : -1074 ≤ v.e_ + S := by omega
      have hShi : v.e_ + S ≤ 12000 := by omega
      refine ⟨fun x y => x = (q : Int) ∧ y = l, k5 (fun x y => x = (q : Int) ∧ y = l) ⟨rfl, rfl⟩, fun x y hxy => ?_⟩
      obtain ⟨hx0, hy0⟩ := hxy
      rw [hx0, hy0]
      refine ⟨fun x => x = if v.neg_ = true then -c else c, ?_, fun x hx => ?_⟩
      · cases hn : v.neg_ with
        | true => exact Br.t rfl (Let.as _ rfl (by rw [wi (by omega) (by omega), if_pos rfl]; omega))
        | false => exact Br.f rfl rfl
      subst hx
      have hrnd : rnd v.neg_ A B c = capR v.neg_ (rndR A B (if v.neg_ = true then -c else c)) (if v.neg_ = true then -c else c) := rfl
      rw [hrnd]
      generalize hdd : (if v.neg_ = true then -c else c) = d at *
      refine ⟨fun x => x = decide (upR (fr (A / B)) A B d), ?_, fun x hx => ?_⟩
      · have one : bits .and .u64 (q : Int) 1 = ((q % 2 : Nat) : Int) := and1 (by omega)
        have tail : ∀ j : Bool → Prop, (∀ b : Bool, b = decide (upR (fr (A / B)) A B d) → j b) → ¬ (0 < d ∧ 0 < l) →
            Br (d == (0 : Int)) (Br (l == (3 : Int)) (j true) (Br (l == (2 : Int)) (Let (bits .and .u64 (q : Int) (1 : Int)) fun x31 => j (x31 == (1 : Int))) (j false))) (j false) := by
          intro j hj hn
          refine Br.e (fun a => Br.e (fun b => hj _ ?_) (fun b => Br.e (fun e => Let.as _ one (hj _ ?_)) (fun e => hj _ ?_))) (fun a => hj _ ?_)
          · symm; rw [decide_eq_true_iff, hup]; exact .inr ⟨a, .inl b⟩
          · by_cases hq : q % 2 = 1
            · rw [hq]; symm; rw [show (((1 : Nat) : Int) == 1) = true from rfl, decide_eq_true_iff, hup]; exact .inr ⟨a, .inr ⟨e, hq⟩⟩
            · have hq0 : q % 2 = 0 := by omega
              rw [hq0]; symm; rw [show (((0 : Nat) : Int) == 1) = false from rfl, decide_eq_false_iff_not, hup]; omega
          · symm; rw [decide_eq_false_iff_not, hup]; omega
          · symm; rw [decide_eq_false_iff_not, hup]; omega
        refine Br.d (fun a => Br.d (fun b => ?_) (fun b => tail (fun x => x = decide (upR (fr (A / B)) A B d)) (fun _ h => h) (by omega))) (fun a => tail (fun x => x = decide (upR (fr (A / B)) A B d)) (fun _ h => h) (by omega))
        show _ = _; symm; rw [decide_eq_true_iff, hup]; exact .inl ⟨a, b⟩
      subst hx
      have hrr : rndR A B d = (v.e_ + S + 1074).toNat * 4503599627370496 + (if upR (fr (A / B)) A B d then q + 1 else q) := by
        unfold rndR
        by_cases hu : upR (fr (A / B)) A B d
        · rw [if_pos hu, if_pos hu, k3]; omega
        · rw [if_neg hu, if_neg hu, k3]
      refine ⟨fun x => x = (((if upR (fr (A / B)) A B d then q + 1 else q) : Nat) : Int), ?_, fun x hx => ?_⟩
      · refine Br.d (fun hu => Let.as _ (wu (by omega) (by omega)) (by rw [if_pos hu]; omega)) (fun hu => by rw [if_neg hu])
      · subst hx
        refine Let.as (v.e_ + S) (wi (by omega) (by omega)) ?_
        rw [hrr]
        refine Call.mk (made_ev' v (by split <;> omega) ⟨hSlo, by omega⟩ ?_) rfl
        rcases k2 with k2 | k2
        · left; split <;> omega
        · right; exact k2
end Go.Sim.YtlkpbnhinnhlfaaGreat
