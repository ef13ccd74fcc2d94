/- What is proved: numbers as lists of digits of 32 bits, and what wraps to itself. -/
import Derived.Test.YtlkpbnhinnhlfaaGreatZLFSimC

namespace Go.Sim
open Go.RowKit
theorem wi {n : Int} (h0 : -9223372036854775808 ≤ n) (h1 : n < 9223372036854775808) : IntKind.i64.wrap n = n := by rw [IntKind.wrap_i64]; omega
theorem wu {n : Int} (h0 : 0 ≤ n) (h1 : n < 18446744073709551616) : IntKind.u64.wrap n = n := by simp only [IntKind.wrap, IntKind.bits, IntKind.signed, Bool.false_and, Bool.false_eq_true, if_false]; omega
theorem wuN (n : Nat) : IntKind.u64.wrap (n : Int) = ((n % 18446744073709551616 : Nat) : Int) := by simp only [IntKind.wrap, IntKind.bits, IntKind.signed, Bool.false_and, Bool.false_eq_true, if_false]; omega
theorem w32N (n : Nat) : IntKind.u32.wrap (n : Int) = ((n % 4294967296 : Nat) : Int) := by rw [IntKind.wrap_u32]; omega
/-- A number's digits of 32 bits, the lowest first. -/
def dig (n : Nat) : List Nat := if h : n = 0 then [] else n % 4294967296 :: dig (n / 4294967296)
termination_by n
decreasing_by omega
/-- What a list of digits stands for. -/
def dval : List Nat → Nat
  | [] => 0
  | d :: l => d + 4294967296 * dval l
theorem dig_zero : dig 0 = [] := by rw [dig]; simp
theorem dig_pos {n : Nat} (h : n ≠ 0) : dig n = n % 4294967296 :: dig (n / 4294967296) := by rw [dig]; simp [h]
theorem dval_dig (n : Nat) : dval (dig n) = n := by
  induction n using Nat.strongRecOn with
  | _ n ih =>
    by_cases h : n = 0
    · subst h; simp [dig_zero, dval]
    · rw [dig_pos h, dval, ih _ (by omega)]; omega
/-- Digits that may be. -/
def dOk (l : List Nat) : Prop := ∀ d ∈ l, d < 4294967296
theorem dOk_dig (n : Nat) : dOk (dig n) := by
  induction n using Nat.strongRecOn with
  | _ n ih =>
    by_cases h : n = 0
    · subst h; simp [dig_zero, dOk]
    · rw [dig_pos h]
      intro d hd
      rcases List.mem_cons.1 hd with rfl | hd
      · omega
      · exact ih _ (by omega) d hd
theorem dval_append (l m : List Nat) : dval (l ++ m) = dval l + 4294967296 ^ l.length * dval m := by
  induction l with
  | nil => simp [dval]
  | cons d l ih => simp only [List.cons_append, dval, ih, List.length_cons, Nat.pow_succ, Nat.mul_add]; rw [Nat.mul_comm (4294967296 ^ l.length) 4294967296, Nat.mul_assoc]; omega
theorem dval_lt {l : List Nat} (h : dOk l) : dval l < 4294967296 ^ l.length := by
  induction l with
  | nil => simp [dval]
  | cons d l ih =>
    have h1 := h d (by simp)
    have h2 := ih (fun x hx => h x (by simp [hx]))
    simp only [dval, List.length_cons, Nat.pow_succ]
    omega
theorem dOk_append {l m : List Nat} : dOk (l ++ m) ↔ dOk l ∧ dOk m := by
  simp only [dOk, List.mem_append]
  exact ⟨fun h => ⟨fun d hd => h d (.inl hd), fun d hd => h d (.inr hd)⟩, fun h d hd => hd.elim (h.1 d) (h.2 d)⟩
/-- A list with no 0 at its end is its number's. -/
theorem dig_dval {l : List Nat} (h : dOk l) (hl : ∀ m d, l = m ++ [d] → d ≠ 0) : dig (dval l) = l := by
  induction l with
  | nil => simp [dval, dig_zero]
  | cons d l ih =>
    have h1 := h d (by simp)
    have ih' := ih (fun x hx => h x (by simp [hx])) (fun m e he => hl (d :: m) e (by simp [he]))
    have hne : dval (d :: l) ≠ 0 := by
      rcases List.eq_nil_or_concat l with rfl | ⟨m, e, rfl⟩
      · have := hl [] d rfl
        simpa [dval] using this
      · have := hl (d :: m) e (by simp)
        simp only [dval, List.concat_eq_append, dval_append]
        have hp : 0 < 4294967296 ^ m.length := Nat.pos_of_ne_zero (by simp)
        have : 0 < 4294967296 ^ m.length * (e + 4294967296 * 0) := Nat.mul_pos hp (by omega)
        omega
    rw [dig_pos hne]
    have e1 : dval (d :: l) % 4294967296 = d := by simp only [dval]; omega
    have e2 : dval (d :: l) / 4294967296 = dval l := by simp only [dval]; omega
    rw [e1, e2, ih']
theorem dig_last {n : Nat} {m : List Nat} {d : Nat} (h : dig n = m ++ [d]) : d ≠ 0 := by
  induction n using Nat.strongRecOn generalizing m with
  | _ n ih =>
    by_cases hn : n = 0
    · subst hn; rw [dig_zero] at h; simp at h
    · rw [dig_pos hn] at h
      cases m with
      | nil =>
        simp only [List.nil_append, List.cons.injEq] at h
        obtain ⟨h1, h2⟩ := h
        have : n / 4294967296 = 0 := by
          have := dval_dig (n / 4294967296)
          rw [h2] at this
          exact this.symm
        omega
      | cons x m =>
        simp only [List.cons_append, List.cons.injEq] at h
        exact ih (n / 4294967296) (by omega) h.2
theorem dval_strip {m : List Nat} : dval (m ++ [0]) = dval m := by rw [dval_append]; simp [dval]
theorem dig_length {n k : Nat} (h : n < 4294967296 ^ k) : (dig n).length ≤ k := by
  induction k generalizing n with
  | zero => have : n = 0 := by simpa using h
            subst this; simp [dig_zero]
  | succ k ih =>
    by_cases hn : n = 0
    · subst hn; simp [dig_zero]
    · rw [dig_pos hn, List.length_cons]
      have : n / 4294967296 < 4294967296 ^ k := Nat.div_lt_of_lt_mul (by rw [Nat.pow_succ, Nat.mul_comm] at h; exact h)
      have := ih this
      omega
theorem dig_nil {n : Nat} : dig n = [] ↔ n = 0 := by
  constructor
  · intro h; have := dval_dig n; rw [h] at this; exact this.symm
  · rintro rfl; exact dig_zero
end Go.Sim
/- What is proved: the order of digits, and how many bits a number has. -/
namespace Go.Sim
open Go.RowKit
theorem dig_lower {n k : Nat} (h : k < (dig n).length) : 4294967296 ^ k ≤ n := by
  rcases Nat.lt_or_ge n (4294967296 ^ k) with h' | h'
  · have := dig_length h'; omega
  · exact h'
theorem dig_upper (n : Nat) : n < 4294967296 ^ (dig n).length := by
  have := dval_lt (dOk_dig n)
  rwa [dval_dig] at this
theorem dig_len_lt {a b : Nat} (h : (dig a).length < (dig b).length) : a < b := Nat.lt_of_lt_of_le (dig_upper a) (dig_lower h)
theorem dval_lt_at {p q r : List Nat} {d e : Nat} (hp : dOk p) (hl : p.length = q.length) (h : d < e) : dval (p ++ d :: r) < dval (q ++ e :: r) := by
  rw [dval_append, dval_append, ← hl]
  simp only [dval]
  have h1 := dval_lt hp
  have h2 : 4294967296 ^ p.length * (d + 4294967296 * dval r + 1) ≤ 4294967296 ^ p.length * (e + 4294967296 * dval r) := Nat.mul_le_mul_left _ (by omega)
  rw [Nat.mul_add] at h2
  omega
theorem split_at {l : List Nat} {m d : Nat} (h : l[m]? = some d) : l = l.take m ++ d :: l.drop (m + 1) := by
  obtain ⟨hlt, he⟩ := List.getElem?_eq_some_iff.1 h
  rw [← he, ← List.drop_eq_getElem_cons hlt, List.take_append_drop]
theorem dig_lt_at {a b m d e : Nat} (hl : (dig a).length = (dig b).length) (hd : (dig a)[m]? = some d) (he : (dig b)[m]? = some e) (hr : (dig a).drop (m + 1) = (dig b).drop (m + 1)) (h : d < e) : a < b := by
  have h1 := split_at hd
  have h2 := split_at he
  rw [← hr] at h2
  have := @dval_lt_at ((dig a).take m) ((dig b).take m) ((dig a).drop (m + 1)) d e (fun x hx => dOk_dig a x (List.mem_of_mem_take hx)) (by simp [hl]) h
  rwa [← h1, ← h2, dval_dig, dval_dig] at this
/-- -1, 0, 1. -/
def cmpS (a b : Nat) : Int := if a < b then -1 else if b < a then 1 else 0
theorem dig_inj {a b : Nat} (h : dig a = dig b) : a = b := by rw [← dval_dig a, h, dval_dig]
/-- How many bits. -/
def blen (n : Nat) : Nat := if h : n = 0 then 0 else blen (n / 2) + 1
termination_by n
decreasing_by omega
theorem blen_zero : blen 0 = 0 := by rw [blen]; simp
theorem blen_pos {n : Nat} (h : n ≠ 0) : blen n = blen (n / 2) + 1 := by rw [blen]; simp [h]
theorem blen_le (n : Nat) : ∀ k, blen n ≤ k ↔ n < 2 ^ k := by
  induction n using Nat.strongRecOn with
  | _ n ih =>
    intro k
    by_cases h : n = 0
    · subst h; simp [blen_zero, Nat.two_pow_pos]
    · rw [blen_pos h]
      cases k with
      | zero => simp; omega
      | succ k =>
        have := ih (n / 2) (by omega) k
        rw [Nat.pow_succ]
        constructor
        · intro h'; have := this.1 (by omega); omega
        · intro h'; have := this.2 (by omega); omega
theorem pow32 (k : Nat) : 4294967296 ^ k = 2 ^ (32 * k) := by rw [Nat.pow_mul]
theorem blen_digits {m : List Nat} {d : Nat} (hm : dOk m) (hd : d ≠ 0) : blen (dval (m ++ [d])) = 32 * m.length + blen d := by
  have h1 := dval_lt hm
  have key : ∀ k, blen (dval (m ++ [d])) ≤ k ↔ 32 * m.length + blen d ≤ k := by
    intro k
    rw [blen_le, dval_append]
    simp only [dval, Nat.mul_zero, Nat.add_zero]
    rw [pow32] at h1 ⊢
    have hb : 1 ≤ blen d := by rw [blen_pos hd]; omega
    constructor
    · intro h
      have hlt : 2 ^ (32 * m.length) * d < 2 ^ k := by omega
      have hge : 2 ^ (32 * m.length) ≤ 2 ^ (32 * m.length) * d := Nat.le_mul_of_pos_right _ (by omega)
      have hk : 32 * m.length ≤ k := by
        rcases Nat.lt_or_ge k (32 * m.length) with h' | h'
        · have := Nat.pow_lt_pow_right (a := 2) (by omega) h'; omega
        · exact h'
      obtain ⟨j, rfl⟩ := Nat.exists_eq_add_of_le hk
      rw [Nat.pow_add] at hlt
      have := (blen_le d j).2 (Nat.lt_of_mul_lt_mul_left hlt)
      omega
    · intro h
      obtain ⟨j, rfl⟩ := Nat.exists_eq_add_of_le (show 32 * m.length ≤ k by omega)
      have hj := (blen_le d j).1 (by omega)
      have : 2 ^ (32 * m.length) * (d + 1) ≤ 2 ^ (32 * m.length) * 2 ^ j := Nat.mul_le_mul_left _ hj
      rw [← Nat.pow_add, Nat.mul_add] at this
      omega
  have a1 := (key _).1 (Nat.le_refl _)
  have a2 := (key _).2 (Nat.le_refl _)
  omega
theorem dig_split {n : Nat} (h : n ≠ 0) : ∃ m d, dig n = m ++ [d] ∧ d ≠ 0 ∧ dOk m ∧ d < 4294967296 ∧ blen n = 32 * m.length + blen d := by
  rcases List.eq_nil_or_concat (dig n) with h' | ⟨m, d, h'⟩
  · exact absurd (dig_nil.1 h') h
  · have e : dig n = m ++ [d] := by simpa using h'
    have hd := dig_last e
    have ok := dOk_dig n
    rw [e, dOk_append] at ok
    refine ⟨m, d, e, hd, ok.1, ok.2 d (by simp), ?_⟩
    rw [← blen_digits ok.1 hd, ← e, dval_dig]
theorem dval_take_succ (l : List Nat) (i : Nat) : dval (l.take (i + 1)) = dval (l.take i) + 4294967296 ^ i * l.getD i 0 := by
  rcases Nat.lt_or_ge i l.length with h | h
  · rw [List.take_add_one, List.getD_eq_getElem?_getD, List.getElem?_eq_getElem h, dval_append]
    simp [dval, Nat.min_eq_left (Nat.le_of_lt h)]
  · rw [List.take_of_length_le h, List.take_of_length_le (by omega), List.getD_eq_getElem?_getD, List.getElem?_eq_none h]
    simp
theorem getD_dig (a i : Nat) : (dig a).getD i 0 < 4294967296 := by
  rw [List.getD_eq_getElem?_getD]
  cases h : (dig a)[i]? with
  | none => simp
  | some d => exact dOk_dig a d (List.mem_of_getElem? h)
theorem plus_step {a b : Nat} {o : List Nat} {c i t : Nat} (h1 : o.length = i) (h2 : dval ((dig a).take i) + dval ((dig b).take i) = dval o + 4294967296 ^ i * c) (ht : t = c + (dig a).getD i 0 + (dig b).getD i 0) :
    dval ((dig a).take (i + 1)) + dval ((dig b).take (i + 1)) = dval (o ++ [t % 4294967296]) + 4294967296 ^ (i + 1) * (t / 4294967296) := by
  rw [dval_take_succ, dval_take_succ, dval_append, h1]
  simp only [dval, Nat.mul_zero, Nat.add_zero]
  have e : 4294967296 ^ i * (t % 4294967296) + 4294967296 ^ (i + 1) * (t / 4294967296) = 4294967296 ^ i * t := by
    rw [Nat.pow_succ, Nat.mul_assoc, ← Nat.mul_add]
    congr 1
    omega
  have e2 : 4294967296 ^ i * t = 4294967296 ^ i * c + 4294967296 ^ i * (dig a).getD i 0 + 4294967296 ^ i * (dig b).getD i 0 := by rw [ht, Nat.mul_add, Nat.mul_add]
  omega
theorem less_step {a b : Nat} {o : List Nat} {r i y r1 : Nat} (h1 : o.length = i) (h2 : dval ((dig a).take i) + 4294967296 ^ i * r = dval o + dval ((dig b).take i)) (hy : y + r + (dig b).getD i 0 = (dig a).getD i 0 + 4294967296 * r1) :
    dval ((dig a).take (i + 1)) + 4294967296 ^ (i + 1) * r1 = dval (o ++ [y]) + dval ((dig b).take (i + 1)) := by
  rw [dval_take_succ, dval_take_succ, dval_append, h1]
  simp only [dval, Nat.mul_zero, Nat.add_zero]
  have e : 4294967296 ^ i * (dig a).getD i 0 + 4294967296 ^ (i + 1) * r1 = 4294967296 ^ i * y + 4294967296 ^ i * r + 4294967296 ^ i * (dig b).getD i 0 := by
    rw [Nat.pow_succ, Nat.mul_assoc, ← Nat.mul_add, ← hy, Nat.mul_add, Nat.mul_add]
  omega
theorem less_end {a b : Nat} {o : List Nat} {r i : Nat} (hi : i = (dig a).length) (hab : b ≤ a) (k1 : dOk o) (k2 : o.length = i) (k4 : dval ((dig a).take i) + 4294967296 ^ i * r = dval o + dval ((dig b).take i)) : dval o = a - b := by
  have hl : (dig b).length ≤ i := by
    rcases Nat.lt_or_ge i (dig b).length with h | h
    · have := dig_len_lt (a := a) (b := b) (by omega); omega
    · exact h
  rw [List.take_of_length_le (by omega), List.take_of_length_le hl, dval_dig, dval_dig] at k4
  have ho := dval_lt k1
  rw [k2] at ho
  rcases Nat.eq_zero_or_pos r with h | h
  · subst h; omega
  · have : 4294967296 ^ i ≤ 4294967296 ^ i * r := Nat.le_mul_of_pos_right _ h
    omega
theorem dval_replicate (q : Nat) : dval (List.replicate q 0) = 0 := by
  induction q with
  | zero => rfl
  | succ q ih => rw [List.replicate_succ, dval, ih]
theorem shl_ok {d s : Nat} (hd : d < 4294967296) (hs : s < 32) : IntKind.u64.wrap ((d : Int) * 2 ^ (min ((s : Nat) : Int).toNat IntKind.u64.bits)) = ((d * 2 ^ s : Nat) : Int) := by
  have e : min ((s : Nat) : Int).toNat IntKind.u64.bits = s := by simp [IntKind.bits]; omega
  have h1 : 2 ^ s ≤ 2 ^ 31 := Nat.pow_le_pow_right (by omega) (by omega)
  have h2 : d * 2 ^ s ≤ 4294967296 * 2 ^ 31 := Nat.mul_le_mul (by omega) h1
  have h3 : ((d : Int) * 2 ^ s) = ((d * 2 ^ s : Nat) : Int) := by simp
  rw [e, h3, wu (by omega) (by omega)]
theorem or_ok {c x s : Nat} (hc : c < 2 ^ s) (hx : x % 2 ^ s = 0) (hs : s < 64) (hx1 : x < 18446744073709551616) : bits .or .u64 (c : Int) (x : Int) = ((c + x : Nat) : Int) := by
  have h2 : (2 : Nat) ^ s ≤ 2 ^ 63 := Nat.pow_le_pow_right (by omega) (by omega)
  have hk : ∀ n : Int, 0 ≤ n → n < 2 ^ 64 → IntKind.u64.wrap n = n := fun n h0 h1 => wu h0 (by simpa using h1)
  rw [(bits_nat .u64 64 (by simp [IntKind.bits]) hk c x (by omega) (by simpa using hx1)).2, Nat.or_comm]
  have hq : x = 2 ^ s * (x / 2 ^ s) := by
    have := Nat.div_add_mod x (2 ^ s)
    omega
  rw [hq, ← Nat.two_pow_add_eq_or_of_lt hc (x / 2 ^ s), Nat.add_comm]
theorem carry_lt {c d s : Nat} (hc : c < 2 ^ s) (hd : d < 4294967296) : (c + d * 2 ^ s) / 4294967296 < 2 ^ s := by
  have : (d + 1) * 2 ^ s ≤ 4294967296 * 2 ^ s := Nat.mul_le_mul_right _ hd
  rw [Nat.add_mul] at this
  exact Nat.div_lt_of_lt_mul (by omega)
theorem left_step {a : Nat} {o : List Nat} {c d i q s : Nat} (h1 : o.length = q + i) (h2 : dval o + 4294967296 ^ (q + i) * c = 4294967296 ^ q * (dval ((dig a).take i) * 2 ^ s)) (hd : (dig a).getD i 0 = d) :
    dval (o ++ [(c + d * 2 ^ s) % 4294967296]) + 4294967296 ^ (q + (i + 1)) * ((c + d * 2 ^ s) / 4294967296) = 4294967296 ^ q * (dval ((dig a).take (i + 1)) * 2 ^ s) := by
  rw [dval_take_succ, dval_append, h1, hd]
  simp only [dval, Nat.mul_zero, Nat.add_zero]
  have e : 4294967296 ^ (q + i) * ((c + d * 2 ^ s) % 4294967296) + 4294967296 ^ (q + (i + 1)) * ((c + d * 2 ^ s) / 4294967296) = 4294967296 ^ (q + i) * (c + d * 2 ^ s) := by
    rw [← Nat.add_assoc q i 1, Nat.pow_succ 4294967296 (q + i), Nat.mul_assoc, ← Nat.mul_add]
    congr 1
    omega
  have e2 : 4294967296 ^ q * ((dval ((dig a).take i) + 4294967296 ^ i * d) * 2 ^ s) = 4294967296 ^ q * (dval ((dig a).take i) * 2 ^ s) + 4294967296 ^ (q + i) * (d * 2 ^ s) := by
    rw [Nat.add_mul, Nat.mul_add, Nat.pow_add, Nat.mul_assoc, Nat.mul_assoc]
  rw [Nat.mul_add] at e
  omega
theorem left_end {a : Nat} {o : List Nat} {c i n : Nat} (hi : (dig a).length ≤ i) (h1 : o.length = n / 32 + i) (h2 : dval o + 4294967296 ^ (n / 32 + i) * c = 4294967296 ^ (n / 32) * (dval ((dig a).take i) * 2 ^ (n % 32))) : dval (o ++ [c]) = a * 2 ^ n := by
  rw [dval_append, h1]
  simp only [dval, Nat.mul_zero, Nat.add_zero]
  rw [h2, List.take_of_length_le hi, dval_dig, pow32, Nat.mul_left_comm, ← Nat.pow_add]
  congr 2
  omega
theorem dOk_set {l : List Nat} {i y : Nat} (h : dOk l) (hy : y < 4294967296) : dOk (l.set i y) := fun d hd => by
  rcases List.mem_or_eq_of_mem_set hd with h' | rfl
  · exact h d h'
  · exact hy
theorem dval_set {l : List Nat} {i f y : Nat} (h : l[i]? = some f) : dval (l.set i y) + 4294967296 ^ i * f = dval l + 4294967296 ^ i * y := by
  obtain ⟨hlt, _⟩ := List.getElem?_eq_some_iff.1 h
  have e := split_at h
  have e2 : l.set i y = l.take i ++ y :: l.drop (i + 1) := by rw [List.set_eq_take_append_cons_drop, if_pos hlt]
  rw [e2]
  conv => rhs; rw [e]
  rw [dval_append, dval_append]
  have hl : (l.take i).length = i := by simp; omega
  rw [hl]
  simp only [dval, Nat.mul_add]
  omega
theorem high_zero {l : List Nat} {i f : Nat} (h : l[i]? = some f) (hv : dval l < 4294967296 ^ i) : f = 0 := by
  have e := split_at h
  obtain ⟨hlt, _⟩ := List.getElem?_eq_some_iff.1 h
  rw [e, dval_append] at hv
  have hl : (l.take i).length = i := by simp; omega
  rw [hl] at hv
  simp only [dval] at hv
  rcases Nat.eq_zero_or_pos f with h0 | h0
  · exact h0
  · have : 4294967296 ^ i ≤ 4294967296 ^ i * (f + 4294967296 * dval (l.drop (i + 1))) := Nat.le_mul_of_pos_right _ (by omega)
    omega
theorem take_mul_lt {a b i k : Nat} (hk : (dig b).length = k) (hi : i ≤ (dig a).length) : dval ((dig a).take i) * b < 4294967296 ^ (i + k) := by
  have h1 : dval ((dig a).take i) < 4294967296 ^ i := by
    have := dval_lt (l := (dig a).take i) (fun x hx => dOk_dig a x (List.mem_of_mem_take hx))
    rwa [show ((dig a).take i).length = i by simp; omega] at this
  have h2 := dig_upper b
  rw [hk] at h2
  rw [Nat.pow_add]
  exact Nat.mul_lt_mul'' h1 h2
theorem by_step {b V d e f c i j t : Nat} {p : List Nat} (hf : p[i + j]? = some f) (he : (dig b).getD j 0 = e) (ht : t = d * e + f + c)
    (h : dval p + 4294967296 ^ (i + j) * c = V + 4294967296 ^ i * (d * dval ((dig b).take j))) :
    dval (p.set (i + j) (t % 4294967296)) + 4294967296 ^ (i + (j + 1)) * (t / 4294967296) = V + 4294967296 ^ i * (d * dval ((dig b).take (j + 1))) := by
  have h1 := dval_set (y := t % 4294967296) hf
  have e1 : 4294967296 ^ (i + j) * (t % 4294967296) + 4294967296 ^ (i + (j + 1)) * (t / 4294967296) = 4294967296 ^ (i + j) * t := by
    rw [← Nat.add_assoc i j 1, Nat.pow_succ 4294967296 (i + j), Nat.mul_assoc, ← Nat.mul_add]
    congr 1
    omega
  have e2 : 4294967296 ^ (i + j) * t = 4294967296 ^ (i + j) * (d * e) + 4294967296 ^ (i + j) * f + 4294967296 ^ (i + j) * c := by rw [ht, Nat.mul_add, Nat.mul_add]
  have e3 : 4294967296 ^ i * (d * dval ((dig b).take (j + 1))) = 4294967296 ^ i * (d * dval ((dig b).take j)) + 4294967296 ^ (i + j) * (d * e) := by
    rw [dval_take_succ, he, Nat.mul_add, Nat.mul_add, Nat.mul_left_comm d, Nat.pow_add, Nat.mul_assoc]
  omega
theorem by_end {a b d c i k : Nat} {p : List Nat} (hk : (dig b).length = k) (hc : c < 4294967296) (hz : p[i + k]? = some 0) (hd : (dig a).getD i 0 = d)
    (h : dval p + 4294967296 ^ (i + k) * c = dval ((dig a).take i) * b + 4294967296 ^ i * (d * dval ((dig b).take k))) : dval (p.set (i + k) (c % 4294967296)) = dval ((dig a).take (i + 1)) * b := by
  have h1 := dval_set (y := c % 4294967296) hz
  rw [List.take_of_length_le (show (dig b).length ≤ k by omega), dval_dig] at h
  have e : c % 4294967296 = c := by omega
  rw [e] at h1 ⊢
  rw [dval_take_succ, hd, Nat.add_mul, Nat.mul_assoc]
  omega
theorem blen_lt (n : Nat) : n < 2 ^ blen n := (blen_le n _).1 (Nat.le_refl _)
theorem blen_ge {n : Nat} (h : n ≠ 0) : 2 ^ (blen n - 1) ≤ n := by
  rcases Nat.lt_or_ge n (2 ^ (blen n - 1)) with h' | h'
  · have := (blen_le n _).2 h'
    have := blen_pos h
    omega
  · exact h'
theorem dig_len_blen (n : Nat) : (dig n).length ≤ blen n := by
  refine dig_length (Nat.lt_of_lt_of_le (blen_lt n) ?_)
  exact Nat.pow_le_pow_left (by omega) _
theorem blen_dig_len {n k : Nat} (h : (dig n).length ≤ k) : blen n ≤ 32 * k := by
  rw [blen_le, ← pow32]
  exact Nat.lt_of_lt_of_le (dig_upper n) (Nat.pow_le_pow_right (by omega) h)
theorem blen_mul_pow (b m : Nat) : blen (b * 2 ^ m) ≤ blen b + m := by
  rw [blen_le, Nat.pow_add]
  exact Nat.mul_lt_mul_of_pos_right (blen_lt b) (Nat.two_pow_pos m)
/-! ### Division, bit by bit -/
/-! ### Numbers of 64 bits -/
end Go.Sim
/- What is proved: plain laws of quotients: what has a common part, products, powers, order. -/
namespace Go.Sim
open Go.RowKit
def sgnS (x y : Int) : Int := if x < y then -1 else if y < x then 1 else 0
theorem mul64_ok {a b x0 x1 y0 y1 w0 t w1 : Nat} (ha : a = x1 * 4294967296 + x0) (hb : b = y1 * 4294967296 + y0) (h0 : w0 = x0 * y0) (ht : t = x1 * y0 + w0 / 4294967296) (h1 : w1 = t % 4294967296 + x0 * y1) :
    x1 * y1 + t / 4294967296 + w1 / 4294967296 = a * b / 18446744073709551616 := by
  have e : a * b = x1 * y1 * 18446744073709551616 + (x1 * y0 + x0 * y1) * 4294967296 + x0 * y0 := by
    rw [ha, hb, Nat.add_mul, Nat.mul_add, Nat.mul_add, Nat.add_mul]
    have e1 : x1 * 4294967296 * (y1 * 4294967296) = x1 * y1 * 18446744073709551616 := by rw [Nat.mul_mul_mul_comm]
    have e2 : x1 * 4294967296 * y0 = x1 * y0 * 4294967296 := Nat.mul_right_comm _ _ _
    have e3 : x0 * (y1 * 4294967296) = x0 * y1 * 4294967296 := (Nat.mul_assoc _ _ _).symm
    omega
  generalize x1 * y1 = p11 at *
  generalize x1 * y0 = p10 at *
  generalize x0 * y1 = p01 at *
  generalize x0 * y0 = p00 at *
  generalize a * b = ab at *
  omega
theorem and32 {a : Nat} (h : a < 18446744073709551616) : bits .and .u64 (a : Int) 4294967295 = ((a % 4294967296 : Nat) : Int) := by
  have hk : ∀ n : Int, 0 ≤ n → n < 2 ^ 64 → IntKind.u64.wrap n = n := fun n h0 h1 => wu h0 (by simpa using h1)
  have := bits_mask .u64 64 (by simp [IntKind.bits]) hk 32 (by omega) (a : Int) (by omega) (by simp; omega)
  rw [show ((2 : Int) ^ 32 - 1) = 4294967295 from rfl] at this
  rw [this]
  omega
def valS (s : Bool) (m : Nat) : Int := if s = true then -(m : Int) else (m : Int)
def sgS (s : Bool) (m : Nat) : Int := if m = 0 then 0 else if s = true then -1 else 1
theorem cmpS_bd (a b : Nat) : -1 ≤ cmpS a b ∧ cmpS a b ≤ 1 := by
  unfold cmpS
  split
  · omega
  · split <;> omega
theorem ord_diff {s t : Bool} {m n : Nat} (hs : m = 0 → s = false) (ht : n = 0 → t = false) (h : sgS s m ≠ sgS t n) : sgnS (valS s m) (valS t n) = if sgS s m < sgS t n then -1 else 1 := by
  unfold sgS at *
  unfold valS sgnS
  by_cases h1 : m = 0 <;> by_cases h2 : n = 0 <;> cases s <;> cases t <;> simp_all <;> omega
theorem ord_zero {s t : Bool} {m n : Nat} (h : sgS s m = sgS t n) (h0 : sgS s m = 0) : sgnS (valS s m) (valS t n) = 0 := by
  unfold sgS at *
  unfold valS sgnS
  by_cases h1 : m = 0 <;> by_cases h2 : n = 0 <;> cases s <;> cases t <;> simp_all
theorem ord_same {s t : Bool} {m n : Nat} (h : sgS s m = sgS t n) (h0 : sgS s m ≠ 0) : sgnS (valS s m) (valS t n) = if s = true then -(cmpS m n) else cmpS m n := by
  have hs : s = t := by
    unfold sgS at *
    by_cases h1 : m = 0 <;> by_cases h2 : n = 0 <;> cases s <;> cases t <;> simp_all
  subst hs
  unfold valS sgnS cmpS
  by_cases h1 : m < n
  · cases s
    · simp [h1]
    · simp [h1]; omega
  · by_cases h2 : n < m
    · cases s
      · simp [h1, h2]
      · simp [h1, h2]
    · cases s
      · simp [h1, h2]
      · simp [h1, h2]
/-! ### Powers, one factor after the other -/
end Go.Sim
/- What is proved: plain laws of sums of quotients. -/
namespace Go.Sim
open Go.RowKit
end Go.Sim
/- What is proved: plain laws of a sum of two quotients, with what their lower parts have in common taken out ahead. -/
namespace Go.Sim
open Go.RowKit
end Go.Sim
/- What is proved: plain laws of the order of quotients: it is total, goes through, and goes with sums. -/
namespace Go.Sim
open Go.RowKit
theorem sgnS_neg {x y : Int} : sgnS x y < 0 ↔ x < y := by unfold sgnS; split <;> (try split) <;> omega
theorem sgnS_zero {x y : Int} : sgnS x y = 0 ↔ x = y := by unfold sgnS; split <;> (try split) <;> omega
end Go.Sim
