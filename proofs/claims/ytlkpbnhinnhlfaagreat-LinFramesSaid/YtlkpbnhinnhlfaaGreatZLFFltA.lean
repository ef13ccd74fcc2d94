/- What is proved: ulp.Add, ulp.Mul and ulp.Round yield the words of the exact results, rounded. -/
import Derived.Test.YtlkpbnhinnhlfaaGreatZLFFltE
import Derived.Test.YtlkpbnhinnhlfaaGreatZLFWF3

namespace Go.Sim.YtlkpbnhinnhlfaaGreat
open Go.RowKit Go.Proofs Go.Proofs.Tryz
/-- Parts of a finite float that is not 0. -/
structure POk (p : GParts) (M : Nat) (X : Nat) : Prop where
  hM : p.M = (M : Int)
  h0 : M ≠ 0
  h1 : M < 9007199254740992
  hE : p.E = (X : Int) - 1074
  h2 : X ≤ 2045
  hc : 4503599627370496 ≤ M ∨ X = 0
def sgn (s : Bool) (n : Nat) : Int := if s = true then -(n : Int) else n
/-- The sum of two: an amount and its sign. -/
theorem sum_ev {p q : GParts} {M X K Y : Nat} (hp : POk p M X) (hq : POk q K Y) (hxy : Y < X ∨ X = Y ∧ K ≤ M) :
    ∃ v hi lo N, Ev_ulp_sum p q v ∧ Amount v hi lo N (sgn p.Neg (M * 2 ^ X) + sgn q.Neg (K * 2 ^ Y)).natAbs 1 ∧
      (sgn p.Neg (M * 2 ^ X) + sgn q.Neg (K * 2 ^ Y) ≠ 0 → v.neg_ = decide (sgn p.Neg (M * 2 ^ X) + sgn q.Neg (K * 2 ^ Y) < 0)) := by
  obtain ⟨hM, hM0, hM1, hE, hX, hMc⟩ := hp
  obtain ⟨hK, hK0, hK1, hF, hY, hKc⟩ := hq
  generalize hd : X - Y = d
  generalize hup : min d 70 = up
  generalize hk : d - up = k
  have hXY : X = Y + d := by omega
  -- the first one, shifted
  have hPlt : M * 2 ^ up < 18446744073709551616 * 18446744073709551616 := by
    have a1 : M * 2 ^ up < 2 ^ 53 * 2 ^ up := Nat.mul_lt_mul_of_pos_right (by simpa using hM1) (Nat.two_pow_pos _)
    rw [← Nat.pow_add] at a1
    have a2 : 2 ^ (53 + up) ≤ 2 ^ 128 := Nat.pow_le_pow_right (by omega) (by omega)
    simp only [Nat.reducePow] at a2
    exact Nat.lt_of_lt_of_le a1 a2
  have hPge : 0 < d → 9007199254740992 ≤ M * 2 ^ up := by
    intro h
    have a1 : 4503599627370496 ≤ M := hMc.resolve_right (by omega)
    have a2 : 2 ^ 1 ≤ 2 ^ up := Nat.pow_le_pow_right (by omega) (by omega)
    have := Nat.mul_le_mul a1 a2
    simpa using this
  have hPbig : 70 < d → 4503599627370496 * 1180591620717411303424 ≤ M * 2 ^ up := by
    intro h
    have a1 : 4503599627370496 ≤ M := hMc.resolve_right (by omega)
    have e : up = 70 := by omega
    have := Nat.mul_le_mul_right (2 ^ up) a1
    rw [e] at this ⊢
    simpa using this
  generalize hP : M * 2 ^ up = P at *
  -- the second one, cut
  generalize hm : K / 2 ^ k = m
  have hk2 := Nat.two_pow_pos k
  have hmK : m ≤ K := by rw [← hm]; exact Nat.div_le_self _ _
  generalize hmo : decide (K % 2 ^ k ≠ 0) = mo
  have hdm := Nat.div_add_mod K (2 ^ k)
  have hml := Nat.mod_lt K hk2
  rw [hm] at hdm
  have hk0 : k = 0 → mo = false ∧ m = K := by
    intro e; subst e
    rw [← hmo, ← hm]; simp [Nat.mod_one]
  -- units
  have hU1 : M * 2 ^ X = P * 2 ^ (X - up) := by rw [← hP, Nat.mul_assoc, ← Nat.pow_add]; congr 2; omega
  have hU2 : 2 ^ (X - up) = 2 ^ Y * 2 ^ k := by rw [← Nat.pow_add]; congr 1; omega
  generalize hU : 2 ^ (X - up) = U at *
  have hy2 := Nat.two_pow_pos Y
  have hQ1 : m * U ≤ K * 2 ^ Y := by
    rw [hU2, Nat.mul_comm (2 ^ Y), ← Nat.mul_assoc]
    exact Nat.mul_le_mul_right _ (by rw [Nat.mul_comm]; omega)
  have hQ2 : K * 2 ^ Y < (m + 1) * U := by
    rw [hU2, Nat.mul_comm (2 ^ Y), ← Nat.mul_assoc]
    refine Nat.mul_lt_mul_of_pos_right ?_ hy2
    rw [Nat.add_mul, Nat.mul_comm m]; omega
  have hQ3 : mo = true ↔ K * 2 ^ Y ≠ m * U := by
    rw [← hmo, decide_eq_true_iff]
    have e : m * U = (m * 2 ^ k) * 2 ^ Y := by rw [hU2, Nat.mul_comm (2 ^ Y), ← Nat.mul_assoc]
    rw [e]
    constructor
    · intro h e2
      have := Nat.eq_of_mul_eq_mul_right hy2 e2
      rw [Nat.mul_comm m] at this; omega
    · intro h e2
      refine h ?_
      congr 1
      rw [Nat.mul_comm m]; omega
  have hUu : ∃ n1 n2 : Nat, U * 2 ^ n1 = 1 * 2 ^ n2 ∧ (p.E - up) + 1074 = (n2 : Int) - n1 := ⟨0, X - up, by rw [hU, Nat.pow_zero, Nat.mul_one, Nat.one_mul], by omega⟩
  obtain ⟨n1, n2, hu1, hu2⟩ := hUu
  have hU0 : 0 < U := by rw [hU2]; exact Nat.mul_pos hy2 hk2
  rw [hU1]
  -- no borrow
  have hPm : m + mo.toNat ≤ P := by
    by_cases h : d = 0
    · have := hk0 (by omega)
      have e : up = 0 := by omega
      rw [e, Nat.pow_zero, Nat.mul_one] at hP
      rw [this.1]; simp; omega
    · have := hPge (by omega)
      cases mo <;> simp <;> omega
  -- what is added
  generalize hQ : K * 2 ^ Y = Q at *
  have heb : -10000 ≤ p.E - up ∧ p.E - up ≤ 10000 := by omega
  have hmb : m < 9007199254740992 := by omega
  have hP123 : P < 18446744073709551615 * 18446744073709551616 := by
    rw [← hP]
    have a1 : M * 2 ^ up < 2 ^ 53 * 2 ^ up := Nat.mul_lt_mul_of_pos_right (by simpa using hM1) (Nat.two_pow_pos _)
    rw [← Nat.pow_add] at a1
    have a2 : 2 ^ (53 + up) ≤ 2 ^ 123 := Nat.pow_le_pow_right (by omega) (by omega)
    simp only [Nat.reducePow] at a2
    omega
  have hno : mo = false → Q = m * U := by
    intro hmv
    by_cases e : Q = m * U
    · exact e
    · have := hQ3.2 e; rw [hmv] at this; cases this
  have hPU : (m + mo.toNat) * U ≤ P * U := Nat.mul_le_mul_right _ hPm
  have hQP : Q ≤ P * U := by
    refine Nat.le_trans ?_ hPU
    cases hmv : mo with
    | true => exact Nat.le_of_lt hQ2
    | false => rw [hno hmv]; simp
  have hbig : mo = true → 4503599627370496 * 1180591620717411303424 ≤ P := by
    intro hmt
    refine hPbig ?_
    by_cases h : 70 < d
    · exact h
    · have := (hk0 (by omega)).1; rw [this] at hmt; cases hmt
  obtain ⟨NN, hNN⟩ : ∃ NN : Nat, NN = if p.Neg = q.Neg then P + m else P - (m + mo.toNat) := ⟨_, rfl⟩
  have amt : Amount ⟨p.Neg, ((NN / 18446744073709551616 : Nat) : Int), ((NN % 18446744073709551616 : Nat) : Int), p.E - up, mo⟩ (NN / 18446744073709551616) (NN % 18446744073709551616) NN (sgn p.Neg (P * U) + sgn q.Neg Q).natAbs 1 := by
    have hNlt : NN < 18446744073709551616 * 18446744073709551616 := by rw [hNN]; split <;> omega
    by_cases hs : p.Neg = q.Neg
    · rw [if_pos hs] at hNN
      have hA : (sgn p.Neg (P * U) + sgn q.Neg Q).natAbs = P * U + Q := by
        rw [← hs]; unfold sgn; cases p.Neg <;> simp <;> omega
      rw [hA]
      have hNU : NN * U = P * U + m * U := by rw [hNN, Nat.add_mul]
      have hm1 : (m + 1) * U = m * U + U := by rw [Nat.add_mul, Nat.one_mul]
      refine ⟨by omega, rfl, rfl, by omega, by omega, heb, by omega, ⟨U, n1, n2, hu1, hu2, by rw [hNU]; omega, by rw [Nat.add_mul NN, hNU]; omega, ?_⟩, ?_⟩
      · show mo = true ↔ _
        rw [hQ3, hNU]; omega
      · intro hmt
        have := hbig hmt
        omega
    · rw [if_neg hs] at hNN
      have hA : (sgn p.Neg (P * U) + sgn q.Neg Q).natAbs = P * U - Q := by
        have : q.Neg = !p.Neg := by
          cases h1 : p.Neg <;> cases h2 : q.Neg <;> rw [h1, h2] at hs <;> first | rfl | exact absurd rfl hs
        rw [this]; unfold sgn; cases p.Neg <;> simp <;> omega
      rw [hA]
      have hNU : NN * U = P * U - (m + mo.toNat) * U := by rw [hNN]; exact Nat.sub_mul _ _ _
      have hmU : (m + mo.toNat) * U = m * U + mo.toNat * U := Nat.add_mul _ _ _
      have hm1 : (m + 1) * U = m * U + U := by rw [Nat.add_mul, Nat.one_mul]
      refine ⟨by omega, rfl, rfl, by omega, by omega, heb, by omega, ⟨U, n1, n2, hu1, hu2, ?_, ?_, ?_⟩, ?_⟩
      · rw [hNU]
        cases hmv : mo with
        | true => rw [hmv] at hmU; simp only [Bool.toNat_true, Nat.one_mul] at *; omega
        | false => have := hno hmv; rw [hmv] at hmU; simp only [Bool.toNat_false, Nat.zero_mul, Nat.add_zero] at *; omega
      · rw [Nat.add_mul NN, hNU, Nat.one_mul]
        cases hmv : mo with
        | true =>
          have := hQ3.1 hmv
          rw [hmv] at hmU hPU; simp only [Bool.toNat_true, Nat.one_mul] at *; omega
        | false => have := hno hmv; rw [hmv] at hmU hPU; simp only [Bool.toNat_false, Nat.zero_mul, Nat.add_zero] at *; omega
      · show mo = true ↔ _
        rw [hNU, hQ3]
        cases hmv : mo with
        | true =>
          have := hQ3.1 hmv
          rw [hmv] at hmU hPU; simp only [Bool.toNat_true, Nat.one_mul] at *; omega
        | false => have := hno hmv; rw [hmv] at hmU hPU; simp only [Bool.toNat_false, Nat.zero_mul, Nat.add_zero] at *; omega
      · intro hmt
        have := hbig hmt
        have h2 : mo.toNat ≤ 1 := by cases mo <;> simp
        show 18014398509481984 ≤ NN
        omega
  have fin : ∀ (J : Gulpvalue → Prop) (hi lo : Nat), hi < 18446744073709551616 → lo < 18446744073709551616 → P = hi * 18446744073709551616 + lo →
      J ⟨p.Neg, ((NN / 18446744073709551616 : Nat) : Int), ((NN % 18446744073709551616 : Nat) : Int), p.E - up, mo⟩ →
      Br (p.Neg == q.Neg) (
        Call (Ev_math_bits_Add64 (lo : Int) (m : Int) (0 : Int)) fun x38 =>
        Let (IntKind.u64.wrap ((hi : Int) + x38.2)) fun x40 =>
        J ({ ({ Gulpvalue.zero with neg_ := p.Neg, hi_ := (hi : Int), lo_ := (lo : Int), e_ := p.E - up, more_ := mo } : Gulpvalue) with hi_ := x40, lo_ := x38.1 })) (
        Join1 (fun j43 =>
          Br mo (Let (IntKind.u64.wrap ((m : Int) + (1 : Int))) fun x44 => j43 x44) (j43 (m : Int))) (fun (x42 : Int) =>
          Call (Ev_math_bits_Sub64 (lo : Int) x42 (0 : Int)) fun x45 =>
          Call (Ev_math_bits_Sub64 (hi : Int) (0 : Int) x45.2) fun x47 =>
          Br (x47.2 == (1 : Int)) (
            Call (Ev_math_bits_Sub64 (0 : Int) x45.1 (0 : Int)) fun x53 =>
            Call (Ev_math_bits_Sub64 (0 : Int) x47.1 x53.2) fun x55 =>
            J ({ ({ Gulpvalue.zero with neg_ := p.Neg, hi_ := (hi : Int), lo_ := (lo : Int), e_ := p.E - up, more_ := mo } : Gulpvalue) with neg_ := (!p.Neg), hi_ := x55.1, lo_ := x53.1 })) (
            J ({ ({ Gulpvalue.zero with neg_ := p.Neg, hi_ := (hi : Int), lo_ := (lo : Int), e_ := p.E - up, more_ := mo } : Gulpvalue) with hi_ := x47.1, lo_ := x45.1 })))) := by
    intro J hi lo hhi hlo hPe hJ
    have hv : ∀ (h l : Int), h = ((NN / 18446744073709551616 : Nat) : Int) → l = ((NN % 18446744073709551616 : Nat) : Int) → J ⟨p.Neg, h, l, p.E - up, mo⟩ := by
      intro h l e1 e2; rw [e1, e2]; exact hJ
    clear hJ amt hQ3 hQ2 hQ1 hno hPU hQP hu1 hu2 hU1 hU2 hU hdm hml hm hk2 hP hy2
    by_cases hs : p.Neg = q.Neg
    · rw [if_pos hs] at hNN
      refine Br.t (by simp [hs]) (Call.mk (add64_ev lo m 0 (by omega)) (Let.as ((hi + (lo + m + 0) / 18446744073709551616 : Nat) : Int) (by rw [wu (by omega) (by omega)]; omega) (hv _ _ (by omega) (by show (((lo + m + 0) % 18446744073709551616 : Nat) : Int) = _; omega))))
    · rw [if_neg hs] at hNN
      refine Br.f (by simpa using hs) ⟨fun x => x = ((m + mo.toNat : Nat) : Int), ?_, fun x hx => ?_⟩
      · cases hmv : mo with
        | true => exact Br.t rfl (Let.as _ (wu (by omega) (by omega)) (by simp))
        | false => exact Br.f rfl (by simp)
      subst hx
      have hmm : m + mo.toNat ≤ 9007199254740992 := by have : mo.toNat ≤ 1 := by cases mo <;> simp
                                                       omega
      generalize m + mo.toNat = mm at *
      refine Call.mk (sub64_ev lo mm 0 (by omega)) ?_
      have two : ∀ c : Nat, c = (if lo < mm + 0 then 1 else 0) → Call (Ev_math_bits_Sub64 (hi : Int) (0 : Int) ((c : Nat) : Int)) fun x47 =>
          Br (x47.2 == (1 : Int)) (
            Call (Ev_math_bits_Sub64 (0 : Int) (((lo + 18446744073709551616 - mm - 0) % 18446744073709551616 : Nat) : Int) (0 : Int)) fun x53 =>
            Call (Ev_math_bits_Sub64 (0 : Int) x47.1 x53.2) fun x55 =>
            J ({ ({ Gulpvalue.zero with neg_ := p.Neg, hi_ := (hi : Int), lo_ := (lo : Int), e_ := p.E - up, more_ := mo } : Gulpvalue) with neg_ := (!p.Neg), hi_ := x55.1, lo_ := x53.1 })) (
            J ({ ({ Gulpvalue.zero with neg_ := p.Neg, hi_ := (hi : Int), lo_ := (lo : Int), e_ := p.E - up, more_ := mo } : Gulpvalue) with hi_ := x47.1, lo_ := (((lo + 18446744073709551616 - mm - 0) % 18446744073709551616 : Nat) : Int) })) := by
        intro c hc
        have hc1 : c ≤ 1 := by rw [hc]; split <;> omega
        refine Call.mk (sub64_ev hi 0 c hc1) (Br.eF ?_ (hv _ _ ?_ ?_))
        · show (((if hi < 0 + c then 1 else 0 : Nat)) : Int) ≠ 1
          split at hc <;> subst hc <;> rw [if_neg (by omega)] <;> decide
        · show (((hi + 18446744073709551616 - 0 - c) % 18446744073709551616 : Nat) : Int) = _
          split at hc <;> subst hc <;> omega
        · split at hc <;> omega
      exact two _ rfl
  -- the sign
  have hsg : sgn p.Neg (P * U) + sgn q.Neg Q ≠ 0 → p.Neg = decide (sgn p.Neg (P * U) + sgn q.Neg Q < 0) := by
    intro hne
    unfold sgn at hne ⊢
    cases hp1 : p.Neg with
    | true =>
      rw [hp1] at hne
      symm; rw [decide_eq_true_iff]
      cases hq1 : q.Neg <;> rw [hq1] at hne <;> simp only [Bool.false_eq_true, if_true, if_false] at hne ⊢ <;> omega
    | false =>
      rw [hp1] at hne
      symm; rw [decide_eq_false_iff_not]
      cases hq1 : q.Neg <;> rw [hq1] at hne <;> simp only [Bool.false_eq_true, if_true, if_false] at hne ⊢ <;> omega
  -- the whole
  have main : ∀ J : Gulpvalue → Prop, J ⟨p.Neg, ((NN / 18446744073709551616 : Nat) : Int), ((NN % 18446744073709551616 : Nat) : Int), p.E - up, mo⟩ → W_ulp_sum p q J := by
    intro J hJ
    unfold W_ulp_sum
    rw [hM, hK]
    refine Br.eF (by omega) (Br.eF (by omega) ?_)
    refine Let.as (d : Int) (by rw [wi (by omega) (by omega)]; omega) (Let.as (up : Int) (by unfold opMinI; split <;> omega) (Let.as (p.E - up) (wi (by omega) (by omega)) ?_))
    have part2 : ∀ (hi lo : Nat), hi < 18446744073709551616 → lo < 18446744073709551616 → P = hi * 18446744073709551616 + lo → ∀ x11 : Gulpvalue, x11 = { Gulpvalue.zero with neg_ := p.Neg, hi_ := (hi : Int), lo_ := (lo : Int), e_ := p.E - up } →
        Join2 (fun j27 =>
          Br (decide ((d : Int) > up)) (
            Let (IntKind.i64.wrap ((d : Int) - up)) fun x28 =>
            Let (opMinI x28 (63 : Int)) fun x29 =>
            Nn x29 <|
            Let (Int.fdiv (K : Int) (2 ^ (min (Int.toNat x29) 64))) fun x30 =>
            Let (IntKind.i64.wrap ((d : Int) - up)) fun x31 =>
            Let (opMinI x31 (63 : Int)) fun x32 =>
            Nn x32 <|
            Let (IntKind.u64.wrap (x30 * 2 ^ (min (Int.toNat x32) 64))) fun x33 =>
            Br ((K : Int) != x33) (j27 ({ x11 with more_ := true }) x30) (
              Let (IntKind.i64.wrap ((d : Int) - up)) fun x34 =>
              j27 ({ x11 with more_ := (decide (x34 > (63 : Int))) }) x30)) (
            j27 x11 (K : Int))
        ) (fun (x25 : Gulpvalue) (x26 : Int) =>
          Br (p.Neg == q.Neg) (
            Call (Ev_math_bits_Add64 x25.lo_ x26 (0 : Int)) fun x38 =>
            Let (IntKind.u64.wrap (x25.hi_ + x38.2)) fun x40 =>
            J ({ x25 with hi_ := x40, lo_ := x38.1 })) (
            Join1 (fun j43 =>
              Br x25.more_ (
                Let (IntKind.u64.wrap (x26 + (1 : Int))) fun x44 =>
                j43 x44) (
                j43 x26)
            ) (fun (x42 : Int) =>
              Call (Ev_math_bits_Sub64 x25.lo_ x42 (0 : Int)) fun x45 =>
              Call (Ev_math_bits_Sub64 x25.hi_ (0 : Int) x45.2) fun x47 =>
              Br (x47.2 == (1 : Int)) (
                Call (Ev_math_bits_Sub64 (0 : Int) x45.1 (0 : Int)) fun x53 =>
                Call (Ev_math_bits_Sub64 (0 : Int) x47.1 x53.2) fun x55 =>
                J ({ x25 with neg_ := (!x25.neg_), hi_ := x55.1, lo_ := x53.1 })) (
                J ({ x25 with hi_ := x47.1, lo_ := x45.1 }))))) := by
      intro hi lo hhi hlo hPe x11 hx11
      subst hx11
      refine ⟨fun x y => x = { Gulpvalue.zero with neg_ := p.Neg, hi_ := (hi : Int), lo_ := (lo : Int), e_ := p.E - up, more_ := mo } ∧ y = (m : Int), ?_, fun x y hxy => ?_⟩
      · refine Br.d (fun a => ?_) (fun a => ?_)
        · have hkk : (d : Int) - up = k := by omega
          refine Let.as (k : Int) (by rw [wi (by omega) (by omega)]; exact hkk) (Let.as ((min k 63 : Nat) : Int) (by unfold opMinI; split <;> omega) ⟨by omega, ?_⟩)
          have hcut : K / 2 ^ (min k 63) = m := by
            by_cases h : k ≤ 63
            · rw [Nat.min_eq_left h, hm]
            · rw [Nat.min_eq_right (by omega), ← hm, Nat.div_eq_of_lt (show K < 2 ^ 63 by omega), Nat.div_eq_of_lt]
              exact Nat.lt_of_lt_of_le (show K < 2 ^ 63 by omega) (Nat.pow_le_pow_right (by omega) (by omega))
          refine Let.as (m : Int) ((shrN K (min k 63) (by omega)).trans (by rw [hcut])) ?_
          refine Let.as (k : Int) (by rw [wi (by omega) (by omega)]; exact hkk) (Let.as ((min k 63 : Nat) : Int) (by unfold opMinI; split <;> omega) ⟨by omega, ?_⟩)
          have hback : m * 2 ^ (min k 63) ≤ K := by rw [← hcut]; exact Nat.div_mul_le_self _ _
          refine Let.as ((m * 2 ^ (min k 63) : Nat) : Int) ((shlN m (min k 63) (by omega)).trans (by rw [Nat.mod_eq_of_lt (by omega)])) ?_
          by_cases h : k ≤ 63
          · rw [Nat.min_eq_left h]
            have hmoe : mo = true ↔ K ≠ m * 2 ^ k := by
              rw [← hmo, decide_eq_true_iff, Nat.mul_comm m]; omega
            by_cases hne : K = m * 2 ^ k
            · have hf : mo = false := by
                cases h : mo with
                | false => rfl
                | true => exact absurd hne (hmoe.1 h)
              refine Br.f (bne_eq_false_iff_eq.2 (by rw [← hne])) (Let.as (k : Int) (by rw [wi (by omega) (by omega)]; exact hkk) ⟨?_, rfl⟩)
              rw [hf, decide_eq_false (by omega)]
            · exact Br.t (bne_iff_ne.2 (fun h => hne (Int.ofNat.inj h))) ⟨by rw [hmoe.2 hne], rfl⟩
          · have hm0 : m = 0 := by
              rw [← hcut, Nat.min_eq_right (by omega)]
              exact Nat.div_eq_of_lt (show K < 2 ^ 63 by omega)
            have hmt : mo = true := by rw [← hmo, decide_eq_true_iff]; rw [hm0, Nat.mul_zero] at hdm; omega
            rw [hm0, Nat.zero_mul]
            exact Br.t (by simp; omega) ⟨by rw [hmt], rfl⟩
        · obtain ⟨h1, h2⟩ := hk0 (by omega)
          exact ⟨by rw [h1], by rw [h2]⟩
      · obtain ⟨hx0, hy0⟩ := hxy
        rw [hx0, hy0]
        exact fin J hi lo hhi hlo hPe hJ
    refine ⟨fun x => ∃ hi lo : Nat, hi < 18446744073709551616 ∧ lo < 18446744073709551616 ∧ P = hi * 18446744073709551616 + lo ∧ x = { Gulpvalue.zero with neg_ := p.Neg, hi_ := (hi : Int), lo_ := (lo : Int), e_ := p.E - up }, ?_, ?_⟩
    · refine Br.d (fun a => ?_) (fun a => ?_)
      · refine Let.as ((up - 64 : Nat) : Int) (by rw [wi (by omega) (by omega)]; omega) ⟨by omega, ?_⟩
        have h64 : 64 ≤ up := by omega
        have e1 : P = M * 2 ^ (up - 64) * 18446744073709551616 := by
          rw [← hP, Nat.mul_assoc, show (18446744073709551616 : Nat) = 2 ^ 64 by decide, ← Nat.pow_add, Nat.sub_add_cancel h64]
        have hlt : M * 2 ^ (up - 64) < 18446744073709551616 := by omega
        refine Let.as ((M * 2 ^ (up - 64) : Nat) : Int) ((shlN M (up - 64) (by omega)).trans (by rw [Nat.mod_eq_of_lt hlt])) ⟨M * 2 ^ (up - 64), 0, hlt, by decide, by rw [Nat.add_zero]; exact e1, rfl⟩
      · refine Let.as ((64 - up : Nat) : Int) (by rw [wi (by omega) (by omega)]; omega) ⟨by omega, ?_⟩
        have e2 : M / 2 ^ (64 - up) = P / 18446744073709551616 := by
          rw [← hP, show (18446744073709551616 : Nat) = 2 ^ (64 - up) * 2 ^ up from pow_split (a := 64) (by omega), Nat.mul_div_mul_right _ _ (Nat.two_pow_pos up)]
        refine Let.as ((P / 18446744073709551616 : Nat) : Int) ((shrN M (64 - up) (by omega)).trans (by rw [e2])) ⟨by omega, ?_⟩
        refine Let.as ((P % 18446744073709551616 : Nat) : Int) ((shlN M up (by omega)).trans (by rw [hP])) ⟨P / 18446744073709551616, P % 18446744073709551616, by omega, by omega, by omega, rfl⟩
    · rintro x ⟨hi, lo, h1, h2, h3, h4⟩
      exact part2 hi lo h1 h2 h3 x h4
  exact ⟨_, _, _, _, walk_ulp_sum (main _ rfl), amt, hsg⟩
end Go.Sim.YtlkpbnhinnhlfaaGreat
