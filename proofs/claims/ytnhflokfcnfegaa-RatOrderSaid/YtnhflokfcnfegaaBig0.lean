/- What is proved: numbers as lists of digits of 32 bits, and what wraps to itself. -/
import Derived.Test.YtnhflokfcnfegaaSim24
namespace Go.Sim
open Go.RowKit

theorem wi {n : Int} (h0 : -9223372036854775808 ≤ n) (h1 : n < 9223372036854775808) : IntKind.i64.wrap n = n := by rw [IntKind.wrap_i64]; omega
theorem wu {n : Int} (h0 : 0 ≤ n) (h1 : n < 18446744073709551616) : IntKind.u64.wrap n = n := by simp only [IntKind.wrap, IntKind.bits, IntKind.signed, Bool.false_and, Bool.false_eq_true, if_false]; omega
theorem wuN (n : Nat) : IntKind.u64.wrap (n : Int) = ((n % 18446744073709551616 : Nat) : Int) := by simp only [IntKind.wrap, IntKind.bits, IntKind.signed, Bool.false_and, Bool.false_eq_true, if_false]; omega
theorem w32N (n : Nat) : IntKind.u32.wrap (n : Int) = ((n % 4294967296 : Nat) : Int) := by rw [IntKind.wrap_u32]; omega

/-- A number's digits of 32 bits, the lowest first. -/
def dig (n : Nat) : List Nat := if h : n = 0 then [] else n % 4294967296 :: dig (n / 4294967296)
termination_by n
decreasing_by omega

/-- What a list of digits stands for. -/
def dval : List Nat → Nat
  | [] => 0
  | d :: l => d + 4294967296 * dval l

theorem dig_zero : dig 0 = [] := by rw [dig]; simp
theorem dig_pos {n : Nat} (h : n ≠ 0) : dig n = n % 4294967296 :: dig (n / 4294967296) := by rw [dig]; simp [h]

theorem dval_dig (n : Nat) : dval (dig n) = n := by
  induction n using Nat.strongRecOn with
  | _ n ih =>
    by_cases h : n = 0
    · subst h; simp [dig_zero, dval]
    · rw [dig_pos h, dval, ih _ (by omega)]; omega

/-- Digits that may be. -/
def dOk (l : List Nat) : Prop := ∀ d ∈ l, d < 4294967296

theorem dOk_dig (n : Nat) : dOk (dig n) := by
  induction n using Nat.strongRecOn with
  | _ n ih =>
    by_cases h : n = 0
    · subst h; simp [dig_zero, dOk]
    · rw [dig_pos h]
      intro d hd
      rcases List.mem_cons.1 hd with rfl | hd
      · omega
      · exact ih _ (by omega) d hd

theorem dval_append (l m : List Nat) : dval (l ++ m) = dval l + 4294967296 ^ l.length * dval m := by
  induction l with
  | nil => simp [dval]
  | cons d l ih => simp only [List.cons_append, dval, ih, List.length_cons, Nat.pow_succ, Nat.mul_add]; rw [Nat.mul_comm (4294967296 ^ l.length) 4294967296, Nat.mul_assoc]; omega

theorem dval_lt {l : List Nat} (h : dOk l) : dval l < 4294967296 ^ l.length := by
  induction l with
  | nil => simp [dval]
  | cons d l ih =>
    have h1 := h d (by simp)
    have h2 := ih (fun x hx => h x (by simp [hx]))
    simp only [dval, List.length_cons, Nat.pow_succ]
    omega

theorem dOk_append {l m : List Nat} : dOk (l ++ m) ↔ dOk l ∧ dOk m := by
  simp only [dOk, List.mem_append]
  exact ⟨fun h => ⟨fun d hd => h d (.inl hd), fun d hd => h d (.inr hd)⟩, fun h d hd => hd.elim (h.1 d) (h.2 d)⟩

/-- A list with no 0 at its end is its number's. -/
theorem dig_dval {l : List Nat} (h : dOk l) (hl : ∀ m d, l = m ++ [d] → d ≠ 0) : dig (dval l) = l := by
  induction l with
  | nil => simp [dval, dig_zero]
  | cons d l ih =>
    have h1 := h d (by simp)
    have ih' := ih (fun x hx => h x (by simp [hx])) (fun m e he => hl (d :: m) e (by simp [he]))
    have hne : dval (d :: l) ≠ 0 := by
      rcases List.eq_nil_or_concat l with rfl | ⟨m, e, rfl⟩
      · have := hl [] d rfl
        simpa [dval] using this
      · have := hl (d :: m) e (by simp)
        simp only [dval, List.concat_eq_append, dval_append]
        have hp : 0 < 4294967296 ^ m.length := Nat.pos_of_ne_zero (by simp)
        have : 0 < 4294967296 ^ m.length * (e + 4294967296 * 0) := Nat.mul_pos hp (by omega)
        omega
    rw [dig_pos hne]
    have e1 : dval (d :: l) % 4294967296 = d := by simp only [dval]; omega
    have e2 : dval (d :: l) / 4294967296 = dval l := by simp only [dval]; omega
    rw [e1, e2, ih']

theorem dig_last {n : Nat} {m : List Nat} {d : Nat} (h : dig n = m ++ [d]) : d ≠ 0 := by
  induction n using Nat.strongRecOn generalizing m with
  | _ n ih =>
    by_cases hn : n = 0
    · subst hn; rw [dig_zero] at h; simp at h
    · rw [dig_pos hn] at h
      cases m with
      | nil =>
        simp only [List.nil_append, List.cons.injEq] at h
        obtain ⟨h1, h2⟩ := h
        have : n / 4294967296 = 0 := by
          have := dval_dig (n / 4294967296)
          rw [h2] at this
          exact this.symm
        omega
      | cons x m =>
        simp only [List.cons_append, List.cons.injEq] at h
        exact ih (n / 4294967296) (by omega) h.2

theorem dval_strip {m : List Nat} : dval (m ++ [0]) = dval m := by rw [dval_append]; simp [dval]

theorem dig_length {n k : Nat} (h : n < 4294967296 ^ k) : (dig n).length ≤ k := by
  induction k generalizing n with
  | zero => have : n = 0 := by simpa using h
            subst this; simp [dig_zero]
  | succ k ih =>
    by_cases hn : n = 0
    · subst hn; simp [dig_zero]
    · rw [dig_pos hn, List.length_cons]
      have : n / 4294967296 < 4294967296 ^ k := Nat.div_lt_of_lt_mul (by rw [Nat.pow_succ, Nat.mul_comm] at h; exact h)
      have := ih this
      omega

theorem dig_nil {n : Nat} : dig n = [] ↔ n = 0 := by
  constructor
  · intro h; have := dval_dig n; rw [h] at this; exact this.symm
  · rintro rfl; exact dig_zero

/-- Digits as data. -/
def bl (l : List Nat) : List DV := l.map fun (d : Nat) => .v (.int .u32 d)

theorem bl_length (l : List Nat) : (bl l).length = l.length := by simp [bl]
theorem bl_append (l m : List Nat) : bl (l ++ m) = bl l ++ bl m := by simp [bl]
theorem bl_get {l : List Nat} {i : Nat} {d : Nat} (h : l[i]? = some d) : (bl l)[i]? = some (.v (.int .u32 d)) := by simp [bl, h]

end Go.Sim
