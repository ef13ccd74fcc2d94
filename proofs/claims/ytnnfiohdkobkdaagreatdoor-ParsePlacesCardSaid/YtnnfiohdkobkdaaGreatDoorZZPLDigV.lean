/- What is proved: numbers written in digits: twos and fives taken out of them; what rat's way to a quotient comes to: the quotient itself, or that it has no room. -/
import Derived.Test.YtnnfiohdkobkdaaGreatDoorZZPLRatS
import Derived.Lib.ParseIntBCases

namespace Go.Sim.YtnnfiohdkobkdaaGreatDoor
open Go.RowKit Go.Proofs Go.Proofs.Tryz
theorem w8 {n : Int} (h0 : 0 ≤ n) (h1 : n < 256) : IntKind.u8.wrap n = n := by simp only [IntKind.wrap, IntKind.bits, IntKind.signed, Bool.false_and, Bool.false_eq_true, if_false]; omega
/-- The number that digits write, behind those of n. -/
def dvA : Nat → List Int → Nat
  | n, [] => n
  | n, c :: l => dvA (n * 10 + (c - 48).toNat) l
def DigI (l : List Int) : Prop := ∀ c ∈ l, 48 ≤ c ∧ c ≤ 57
theorem DigI.tl {c : Int} {l : List Int} (h : DigI (c :: l)) : DigI l := fun x hx => h x (List.mem_cons_of_mem _ hx)
theorem short_val {y : Nat} (hy : 0 < y) (hy9 : y ≤ 9) : ∀ (l : List Int) (q r : Nat), DigI l → r < y → DigI (shortL (y : Int) l (r : Int)) ∧ ∃ r', r' < y ∧ dvA (y * q + r) l = y * dvA q (shortL (y : Int) l (r : Int)) + r'
  | [], q, r, _, hr => ⟨fun _ h => by simp [shortL] at h, r, hr, by simp [shortL, dvA]⟩
  | c :: t, q, r, hl, hr => by
    obtain ⟨h1, h2⟩ := hl c (List.mem_cons_self ..)
    obtain ⟨d, rfl⟩ : ∃ d : Nat, c = 48 + (d : Int) := ⟨(c - 48).toNat, by omega⟩
    have hd : d ≤ 9 := by omega
    have e1 : IntKind.u8.wrap (IntKind.u8.wrap (IntKind.u8.wrap ((r : Int) * 10) + (48 + (d : Int))) - 48) = ((r * 10 + d : Nat) : Int) := by
      rw [w8 (n := (r : Int) * 10) (by omega) (by omega), w8 (n := (r : Int) * 10 + (48 + (d : Int))) (by omega) (by omega), w8 (by omega) (by omega)]; omega
    obtain ⟨Q, hQ⟩ : ∃ Q, Q = (r * 10 + d) / y := ⟨_, rfl⟩
    obtain ⟨R, hR⟩ : ∃ R, R = (r * 10 + d) % y := ⟨_, rfl⟩
    have hv : Q ≤ 9 := by
      have := Nat.div_lt_of_lt_mul (m := r * 10 + d) (n := y) (k := 10) (by omega)
      omega
    have e2 : Int.tdiv ((r * 10 + d : Nat) : Int) (y : Int) = (Q : Int) := by rw [← Int.ofNat_tdiv, ← hQ]
    have e3 : Int.tmod ((r * 10 + d : Nat) : Int) (y : Int) = (R : Int) := by rw [← Int.ofNat_tmod, ← hR]
    have e4 : shortL (y : Int) ((48 + (d : Int)) :: t) (r : Int) = (48 + (Q : Int)) :: shortL (y : Int) t (R : Int) := by
      rw [shortL]
      simp only [e1, e2, e3]
      rw [w8 (n := (Q : Int)) (by omega) (by omega), w8 (by omega) (by omega)]
    obtain ⟨g1, r', g2, g3⟩ := short_val hy hy9 t (q * 10 + Q) R hl.tl (by rw [hR]; exact Nat.mod_lt _ hy)
    rw [e4]
    refine ⟨fun x hx => ?_, r', g2, ?_⟩
    · rcases List.mem_cons.1 hx with rfl | hx
      · omega
      · exact g1 x hx
    · rw [dvA, dvA, show (48 + (d : Int) - 48).toNat = d by omega, show (48 + (Q : Int) - 48).toNat = Q by omega, ← g3]
      congr 1
      have h3 := Nat.div_add_mod (r * 10 + d) y
      rw [← hQ, ← hR] at h3
      rw [Nat.mul_add, Nat.add_mul]
      have e5 : y * q * 10 = y * (q * 10) := by rw [Nat.mul_assoc]
      omega
theorem dvA_snoc : ∀ (l : List Int) (n : Nat) (c : Int), dvA n (l ++ [c]) = dvA n l * 10 + (c - 48).toNat
  | [], n, c => rfl
  | b :: l, n, c => by rw [List.cons_append, dvA, dvA, dvA_snoc]
/-- The last digit tells of twos and fives. -/
theorem last_val {y : Nat} (hy : y ∣ 10) {l : List Int} (hl : DigI l) (hne : 1 ≤ l.length) : Int.tmod (IntKind.u8.wrap ((l[l.length - 1]?).getD 0 - 48)) (y : Int) = 0 ↔ y ∣ dvA 0 l := by
  have hne' : l ≠ [] := fun e => by rw [e] at hne; simp at hne
  obtain ⟨i, c, rfl⟩ : ∃ i c, l = i ++ [c] := ⟨l.dropLast, l.getLast hne', (List.dropLast_concat_getLast hne').symm⟩
  have e : (i ++ [c])[(i ++ [c]).length - 1]? = some c := by simp
  obtain ⟨h1, h2⟩ := hl c (by simp)
  obtain ⟨d, rfl⟩ : ∃ d : Nat, c = 48 + (d : Int) := ⟨(c - 48).toNat, by omega⟩
  rw [e, Option.getD_some, dvA_snoc, w8 (by omega) (by omega), show (48 + (d : Int) - 48) = (d : Int) by omega, ← Int.ofNat_tmod, Int.toNat_natCast]
  have h10 : y ∣ dvA 0 i * 10 := Nat.dvd_trans hy (Nat.dvd_mul_left ..)
  rw [← Nat.dvd_add_iff_right h10, Nat.dvd_iff_mod_eq_zero]
  omega
theorem strip_val {y : Nat} (hy : y ∣ 10) (hy0 : 0 < y) (hy9 : y ≤ 9) : ∀ (k : Nat) (l : List Int), DigI l → 1 ≤ l.length →
    DigI (stripF (y : Int) k l).2 ∧ ∃ j, (stripF (y : Int) k l).1 + j = k ∧ dvA 0 l = y ^ j * dvA 0 (stripF (y : Int) k l).2 ∧ ((stripF (y : Int) k l).1 = 0 ∨ ¬ y ∣ dvA 0 (stripF (y : Int) k l).2)
  | 0, l, hl, _ => ⟨hl, 0, rfl, by simp [stripF], .inl rfl⟩
  | k + 1, l, hl, hne => by
    unfold stripF
    split
    · rename_i h
      have hdv := (last_val hy hl hne).1 h
      obtain ⟨g1, r', g2, g3⟩ := short_val hy0 hy9 l 0 0 hl hy0
      have g3' : dvA 0 l = y * dvA 0 (shortL (y : Int) l 0) := by
        have : dvA 0 l = y * dvA 0 (shortL (y : Int) l 0) + r' := by simpa using g3
        have hr : y ∣ r' := by rw [this] at hdv; exact (Nat.dvd_add_iff_right (Nat.dvd_mul_right ..)).2 hdv
        have : r' = 0 := Nat.eq_zero_of_dvd_of_lt hr g2
        omega
      obtain ⟨f1, j, f2, f3, f4⟩ := strip_val hy hy0 hy9 k (shortL (y : Int) l 0) g1 (by rw [shortL_len]; exact hne)
      refine ⟨f1, j + 1, by omega, ?_, f4⟩
      rw [g3', f3, Nat.pow_succ, Nat.mul_comm (y ^ j) y, Nat.mul_assoc]
    · rename_i h
      exact ⟨hl, 0, rfl, by simp, .inr fun hd => h ((last_val hy hl hne).2 hd)⟩
theorem mulF_val : ∀ (e n : Nat), n < 18446744073709551616 → mulF e n = if n * 10 ^ e < 18446744073709551616 then some (n * 10 ^ e) else none
  | 0, n, h => by simp [mulF, h]
  | e + 1, n, h => by
    rw [mulF]
    by_cases h1 : n * 10 < 18446744073709551616
    · rw [if_neg (by rw [Nat.div_eq_of_lt h1]; omega), Nat.mod_eq_of_lt h1, mulF_val e _ h1, Nat.pow_succ, Nat.mul_comm (10 ^ e) 10, ← Nat.mul_assoc]
    · have hp : 0 < 10 ^ e := Nat.pow_pos (by decide)
      rw [if_pos (Nat.div_pos (by omega) (by decide)), if_neg]
      rw [Nat.pow_succ, Nat.mul_comm (10 ^ e) 10, ← Nat.mul_assoc]
      have := Nat.le_mul_of_pos_right (n * 10) hp
      omega
theorem madeS_big {s : Bool} {n d : Nat} (hc : Nat.gcd n d = 1) (h : 9223372036854775808 ≤ n ∨ 9223372036854775808 ≤ d) : madeS s n d = ((0, 0), 3) := by
  rw [madeS_cop hc, if_neg (by omega)]
theorem cop_of {v two five : Nat} (c2 : two = 0 ∨ ¬ 2 ∣ v) (c5 : five = 0 ∨ ¬ 5 ∣ v) : Nat.gcd v (5 ^ five * 2 ^ two) = 1 := by
  have a2 : Nat.Coprime v (2 ^ two) := by
    rcases c2 with c | c
    · rw [c]; exact Nat.coprime_one_right _
    · refine Nat.Coprime.pow_right _ ?_
      have h1 := Nat.le_of_dvd (by decide) (Nat.gcd_dvd_right v 2)
      have h2 := Nat.gcd_dvd_left v 2
      have h3 := Nat.gcd_dvd_right v 2
      show Nat.gcd v 2 = 1
      generalize Nat.gcd v 2 = g at *
      match g, h1, h2, h3 with
      | 0, _, _, h3 => simp at h3
      | 1, _, _, _ => rfl
      | 2, _, h2, _ => exact absurd h2 c
  have a5 : Nat.Coprime v (5 ^ five) := by
    rcases c5 with c | c
    · rw [c]; exact Nat.coprime_one_right _
    · refine Nat.Coprime.pow_right _ ?_
      have h1 := Nat.le_of_dvd (by decide) (Nat.gcd_dvd_right v 5)
      have h2 := Nat.gcd_dvd_left v 5
      have h3 := Nat.gcd_dvd_right v 5
      show Nat.gcd v 5 = 1
      generalize Nat.gcd v 5 = g at *
      match g, h1, h2, h3 with
      | 0, _, _, h3 => simp at h3
      | 1, _, _, _ => rfl
      | 2, _, _, h3 => exact absurd h3 (by decide)
      | 3, _, _, h3 => exact absurd h3 (by decide)
      | 4, _, _, h3 => exact absurd h3 (by decide)
      | 5, _, h2, _ => exact absurd h2 c
  exact Nat.Coprime.mul_right a5 a2
/-- What rat's way comes to. -/
theorem tail_val {v v1 i j two five : Nat} {k0 : Nat} {e : Int} (hv : 0 < v) (hk : k0 = (-e).toNat) (h2 : two + i = k0) (h5 : five + j = k0) (hval : v = 2 ^ i * (5 ^ j * v1))
    (c2 : two = 0 ∨ ¬ 2 ∣ v1) (c5 : five = 0 ∨ ¬ 5 ∣ v1) :
    (if 18446744073709551616 ≤ v1 then (GRat.zero, 3) else tailR two five e v1) = toR (madeS false (v * 10 ^ e.toNat) (10 ^ k0)) := by
  have zero : ((GRat.zero, 3) : GRat × Int) = toR ((0, 0), 3) := rfl
  have cop : Nat.gcd v1 (5 ^ five * 2 ^ two) = 1 := cop_of c2 c5
  have p2 : ∀ k, 0 < 2 ^ k := fun k => Nat.two_pow_pos k
  have p5 : ∀ k, 0 < 5 ^ k := fun k => Nat.pow_pos (by decide)
  have hP : 0 < 5 ^ five * 2 ^ two := Nat.mul_pos (p5 _) (p2 _)
  have main : madeS false (v * 10 ^ e.toNat) (10 ^ k0) = madeS false (v1 * 10 ^ e.toNat) (5 ^ five * 2 ^ two) := by
    have e10 : (10 : Nat) ^ k0 = (5 ^ five * 2 ^ two) * (2 ^ i * 5 ^ j) := by
      rw [show (10 : Nat) = 5 * 2 from rfl, Nat.mul_pow, ← h5, Nat.pow_add, h5, ← h2, Nat.pow_add]
      simp only [Nat.mul_assoc, Nat.mul_comm, Nat.mul_left_comm]
    have ev : v * 10 ^ e.toNat = (v1 * 10 ^ e.toNat) * (2 ^ i * 5 ^ j) := by
      rw [hval]; simp only [Nat.mul_assoc, Nat.mul_comm, Nat.mul_left_comm]
    rw [e10, ev, madeS_scale (Nat.mul_pos (p2 _) (p5 _))]
  rw [main]
  have v1p : 0 < v1 := by
    rcases Nat.eq_zero_or_pos v1 with h | h
    · rw [h] at hval; simp at hval; omega
    · exact h
  have big : ∀ n, Nat.gcd n (5 ^ five * 2 ^ two) = 1 → (9223372036854775808 ≤ n ∨ 9223372036854775808 ≤ 5 ^ five * 2 ^ two) → (GRat.zero, (3 : Int)) = toR (madeS false n (5 ^ five * 2 ^ two)) := fun n h1 h2 => by rw [madeS_big h1 h2] <;> rfl
  have cop2 : Nat.gcd (v1 * 10 ^ e.toNat) (5 ^ five * 2 ^ two) = 1 := by
    by_cases he : 0 ≤ e
    · have t0 : two = 0 := by omega
      have f0 : five = 0 := by omega
      rw [t0, f0]; simp
    · rw [show e.toNat = 0 by omega]; simpa using cop
  have le10 : v1 ≤ v1 * 10 ^ e.toNat := Nat.le_mul_of_pos_right _ (Nat.pow_pos (by decide))
  split
  · exact big _ cop2 (.inl (by omega))
  rename_i hlt
  unfold tailR
  split
  · rename_i h
    refine big _ cop2 (.inr ?_)
    have h1 : 2 ^ 63 ≤ 2 ^ two := Nat.pow_le_pow_right (by decide) (by omega)
    have h3 := Nat.le_mul_of_pos_left (2 ^ two) (p5 five)
    exact Nat.le_trans h1 h3
  split
  · rename_i h
    refine big _ cop2 (.inr ?_)
    have h1 : 5 ^ 28 ≤ 5 ^ five := Nat.pow_le_pow_right (by decide) (by omega)
    have h3 := Nat.le_mul_of_pos_right (5 ^ five) (p2 two)
    exact Nat.le_trans (Nat.le_trans (by decide) h1) h3
  rw [mulF_val _ _ (by omega)]
  by_cases hr : v1 * 10 ^ e.toNat < 18446744073709551616
  · rw [if_pos hr]
    show (if _ then _ else _) = _
    split
    · rename_i h
      refine big _ cop2 (.inr ?_)
      have hb : ¬ blen (5 ^ five) ≤ blen (5 ^ five) - 1 := by
        have := p5 five
        have h0 : ¬ blen (5 ^ five) ≤ 0 := fun h => by have := (blen_le _ _).1 h; simp at this <;> omega
        omega
      rw [blen_le] at hb
      have h1 : 2 ^ (64 - (blen (5 ^ five) - 1)) ≤ 2 ^ two := Nat.pow_le_pow_right (by decide) (by omega)
      have h3 := Nat.mul_le_mul (Nat.le_of_not_lt hb) h1
      rw [← Nat.pow_add] at h3
      have h4 : 2 ^ 64 ≤ 2 ^ (blen (5 ^ five) - 1 + (64 - (blen (5 ^ five) - 1))) := Nat.pow_le_pow_right (by decide) (by omega)
      exact Nat.le_trans (by decide) (Nat.le_trans h4 h3)
    · rfl
  · rw [if_neg hr]
    exact big _ cop2 (.inl (by omega))
/-- What ParseUint tells of digits. -/
theorem parse_digits {M : Nat} (hM : M = 18446744073709551615) : ∀ (l : List UInt8) (acc : Nat), (∀ b ∈ l, digitB (b.toNat : Int) = true) → acc ≤ M →
    Lib.parseUintM M acc l = if dvA acc (l.map fun b => (b.toNat : Int)) ≤ M then .ok (dvA acc (l.map fun b => (b.toNat : Int))) else .range
  | [], acc, _, h => by simp [Lib.parseUintM, dvA, h]
  | c :: r, acc, hl, h => by
    have hc : 48 ≤ c.toNat ∧ c.toNat ≤ 57 := by
      have := hl c (List.mem_cons_self ..)
      unfold digitB at this; simp only [Bool.and_eq_true, decide_eq_true_eq] at this; omega
    have ge : ∀ (l : List Int) (n : Nat), n ≤ dvA n l := by
      intro l
      induction l with
      | nil => intro n; exact Nat.le_refl _
      | cons b l ih => intro n; rw [dvA]; exact Nat.le_trans (by omega) (ih _)
    have g := ge (r.map fun b => (b.toNat : Int)) (acc * 10 + (c.toNat - 48))
    have e : dvA acc ((c :: r).map fun b => (b.toNat : Int)) = dvA (acc * 10 + (c.toNat - 48)) (r.map fun b => (b.toNat : Int)) := by
      rw [List.map_cons, dvA, show ((c.toNat : Int) - 48).toNat = c.toNat - 48 by omega]
    rw [Lib.parseUintM, if_pos hc, e]
    split
    · rw [if_neg (by omega)]
    split
    · rw [if_neg (by omega)]
    · exact parse_digits hM r _ (fun b hb => hl b (List.mem_cons_of_mem _ hb)) (by omega)
end Go.Sim.YtnnfiohdkobkdaaGreatDoor
