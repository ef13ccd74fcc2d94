/- What is proved: the reference's quotients of whole numbers: how often, what is made. -/
import Derived.Test.YtefpfeoimgkldaaDoorZRRBigZ

namespace Go.Sim.YtefpfeoimgkldaaDoor
open Go.RowKit Go.Proofs Go.Proofs.Tryd
theorem quo_ev (a b : Nat) (ha : (dig a).length ≤ 10000) (hb : (dig b).length ≤ 10000) (hb0 : b ≠ 0) : Ev_ref11_Quo (dg a) (dg b) (dg (a / b)) := by
  have la := blen_dig_len ha
  have lb := blen_dig_len hb
  refine walk_ref11_Quo ?_
  unfold W_ref11_Quo
  refine Call.mk (bits_ev a (by omega)) (Call.mk (bits_ev b (by omega)) (Let.as ((blen a : Int) - (blen b : Int)) (wi (by omega) (by omega)) ?_))
  refine ⟨fun x y k => ∃ A q : Nat, x = dg A ∧ y = dg q ∧ a = b * (q * 2 ^ (k + 1).toNat) + A ∧ A < b * 2 ^ (k + 1).toNat ∧ k ≤ 320000, fun _ _ k => (k + 1).toNat, ⟨a, 0, rfl, by rw [dg, dig_zero]; rfl, by rw [Nat.zero_mul, Nat.mul_zero, Nat.zero_add], div_init hb0, by omega⟩, ?_⟩
  rintro _ _ k ⟨A, q, rfl, rfl, k1, k3, k4⟩
  have hAa : A ≤ a := by rw [k1]; omega
  have lA : (dig A).length ≤ 10000 := by have := dig_len_le hAa; omega
  refine Br.d (fun c => ?_) (fun c => ?_)
  · obtain ⟨m, rfl⟩ := Int.eq_ofNat_of_zero_le c
    have hsh : (dig (b * 2 ^ m)).length ≤ 1000000 := by
      have h1 := dig_len_blen (b * 2 ^ m)
      have h2 := blen_mul_pow b m
      omega
    have e1 : ((m : Int) + 1).toNat = m + 1 := by omega
    rw [e1, Nat.pow_succ] at k1 k3
    have hb1 : 1 ≤ b := by omega
    have hqa : q ≤ a := by
      have h1 : q * 1 ≤ q * (2 ^ m * 2) := Nat.mul_le_mul_left _ (by have := Nat.two_pow_pos m; omega)
      have h2 : 1 * (q * (2 ^ m * 2)) ≤ b * (q * (2 ^ m * 2)) := Nat.mul_le_mul_right _ hb1
      omega
    have hq2 : q * 2 ^ 1 ≤ a := by
      have h1 : q * 2 ≤ q * (2 ^ m * 2) := Nat.mul_le_mul_left _ (by have := Nat.two_pow_pos m; omega)
      have h2 : 1 * (q * (2 ^ m * 2)) ≤ b * (q * (2 ^ m * 2)) := Nat.mul_le_mul_right _ hb1
      omega
    have lq : (dig q).length ≤ 10000 := by have := dig_len_le hqa; omega
    have lq2 : (dig (q * 2 ^ 1)).length ≤ 10000 := by have := dig_len_le hq2; omega
    have l1 : (dig 1).length ≤ 1000000 := by
      have := dig_length (n := 1) (k := 1) (by decide); omega
    have assoc : ∀ x : Nat, b * (x * 2 * 2 ^ m) = b * (x * (2 ^ m * 2)) := fun x => by rw [Nat.mul_assoc x 2, Nat.mul_comm 2]
    refine Call.mk (left_ev b m (by omega) (by omega)) (Call.mk (left_ev q 1 (by omega) (by omega)) (Call.mk (cmp_ev _ A hsh) ⟨fun x y => ∃ A' q' : Nat, x = dg A' ∧ y = dg q' ∧ a = b * (q' * 2 ^ m) + A' ∧ A' < b * 2 ^ m, ?_, ?_⟩))
    · refine ⟨fun h => ?_, fun h => ?_⟩
      · have hle := cmpS_le h
        refine Call.mk (less_ev A (b * 2 ^ m) (by omega) hle) (Call.mk (of_ev 1 (by decide)) (Call.mk (plus_ev _ 1 (by omega) l1) ⟨A - b * 2 ^ m, q * 2 ^ 1 + 1, rfl, rfl, ?_, ?_⟩))
        · rw [Nat.pow_one, Nat.add_mul, Nat.one_mul, Nat.mul_add, assoc]; omega
        · rw [← Nat.mul_assoc] at k3; omega
      · refine ⟨A, q * 2 ^ 1, rfl, rfl, ?_, cmpS_gt h⟩
        rw [Nat.pow_one, assoc]; exact k1
    · rintro _ _ ⟨A', q', rfl, rfl, q1, q3⟩
      refine Let.as ((m : Int) - 1) (wi (by omega) (by omega)) ⟨⟨A', q', rfl, rfl, ?_, ?_, by omega⟩, ?_⟩
      · rw [show ((m : Int) - 1 + 1).toNat = m by omega]; exact q1
      · rw [show ((m : Int) - 1 + 1).toNat = m by omega]; exact q3
      · show ((m : Int) - 1 + 1).toNat < ((m : Int) + 1).toNat; omega
  · have e1 : (k + 1).toNat = 0 := by omega
    rw [e1, Nat.pow_zero, Nat.mul_one] at k1 k3
    show dg q = dg (a / b)
    rw [k1, Nat.mul_add_div (by omega), Nat.div_eq_of_lt k3, Nat.add_zero]
theorem reflow_ev (a : Nat) (ha : (dig a).length ≤ 10000) : Ev_ref11_low (dg a) (IntKind.i64.wrap ((a % 18446744073709551616 : Nat) : Int), decide (blen a ≤ 63)) := by
  have la := blen_dig_len ha
  have hl : (dg a).length = (dig a).length := dl_len _
  refine walk_ref11_low ?_
  unfold W_ref11_low
  refine Let.as (((dig a).length : Int) - 1) (by rw [hl]; exact wi (by omega) (by omega)) ?_
  refine ⟨fun n i => ∃ k : Nat, k ≤ (dig a).length ∧ i = (k : Int) - 1 ∧ n = ((dval ((dig a).drop k) % 18446744073709551616 : Nat) : Int), fun _ i => (i + 1).toNat, ⟨(dig a).length, Nat.le_refl _, rfl, by rw [List.drop_length]; rfl⟩, ?_⟩
  rintro _ _ ⟨k, hk, rfl, rfl⟩
  refine Br.d (fun c => ?_) (fun c => ?_)
  · obtain ⟨m, rfl⟩ : ∃ m, k = m + 1 := ⟨k - 1, by omega⟩
    have hm : (((m + 1 : Nat) : Int) - 1) = (m : Int) := by omega
    rw [hm]
    obtain ⟨d, hd⟩ : ∃ d, (dig a)[m]? = some d := ⟨_, List.getElem?_eq_getElem (by omega)⟩
    have hdl := dOk_dig a d (List.mem_of_getElem? hd)
    have hdv := dval_drop hd
    refine Let.as ((dval ((dig a).drop (m + 1)) * 4294967296 % 18446744073709551616 : Nat) : Int) (by rw [wuM]; omega) ?_
    refine At.dl (l := dig a) (by omega) fun d' hd' => ?_
    rw [hd] at hd'; cases hd'
    refine Let.as ((d : Nat) : Int) (by rw [wu (by omega) (by omega)]) (Let.as ((dval ((dig a).drop m) % 18446744073709551616 : Nat) : Int) (by rw [or_ok' (s := 32) (by omega) (by omega) (by omega) (by omega), hdv]; congr 1; omega) (Let.as ((m : Int) - 1) (wi (by omega) (by omega)) ⟨⟨m, by omega, rfl, rfl⟩, ?_⟩))
    show ((m : Int) - 1 + 1).toNat < ((m : Int) + 1).toNat; omega
  · have hk0 : k = 0 := by omega
    subst hk0
    rw [List.drop_zero, dval_dig]
    refine Let.it (Call.mk (bits_ev a (by omega)) ?_)
    show (_, decide (((blen a : Nat) : Int) ≤ 63)) = _
    congr 1
    rw [decide_eq_decide]; omega
theorem low_small {a : Nat} (h : a < 9223372036854775808) : IntKind.i64.wrap ((a % 18446744073709551616 : Nat) : Int) = (a : Int) := by
  rw [Nat.mod_eq_of_lt (by omega), wi (by omega) (by omega)]
theorem refOf_ev (s : Bool) (n d : Nat) (hn : (dig n).length ≤ 10000) (hd : (dig d).length ≤ 10000) (hd0 : d ≠ 0) : Ev_ref11_Of s (dg n) (dg d) (toR (madeS s n d)) := by
  refine walk_ref11_Of ?_
  unfold W_ref11_Of
  by_cases h0 : n = 0
  · subst h0
    refine Br.t (beq_iff_eq.2 ((dg_len0 0).2 rfl)) ?_
    rw [madeS_zero hd0]
  have hg : Nat.gcd n d ≠ 0 := by
    intro h
    exact hd0 (Nat.eq_zero_of_gcd_eq_zero_right h)
  have hgl : (dig (Nat.gcd n d)).length ≤ 10000 := by
    have := dig_len_le (Nat.gcd_le_right n (Nat.pos_of_ne_zero hd0)); omega
  have hxl : (dig (n / Nat.gcd n d)).length ≤ 10000 := by have := dig_len_le (Nat.div_le_self n (Nat.gcd n d)); omega
  have hyl : (dig (d / Nat.gcd n d)).length ≤ 10000 := by have := dig_len_le (Nat.div_le_self d (Nat.gcd n d)); omega
  have bl : ∀ x : Nat, decide (blen x ≤ 63) = decide (x < 9223372036854775808) := fun x => by rw [decide_eq_decide]; exact blen_le x 63
  refine Br.f (by
    rw [Bool.eq_false_iff]
    intro h
    exact h0 ((dg_len0 n).1 (by simpa using h))) ?_
  refine Call.mk (common_ev n d hn hd) (Call.mk (quo_ev n _ hn hgl hg) (Call.mk (reflow_ev _ hxl) (Call.mk (quo_ev d _ hd hgl hg) (Call.mk (reflow_ev _ hyl) ?_))))
  rw [bl, bl]
  unfold madeS
  generalize n / Nat.gcd n d = X
  generalize d / Nat.gcd n d = Y
  by_cases h1 : X < 9223372036854775808
  · refine Br.f (by simp [h1]) ?_
    by_cases h2 : Y < 9223372036854775808
    · refine Br.f (by simp [h2]) ?_
      rw [if_pos ⟨h1, h2⟩, low_small h1, low_small h2]
      refine ⟨fun x => x = if s = true then -(X : Int) else (X : Int), ⟨fun h => Let.as (-(X : Int)) (by rw [wi (by omega) (by omega)]; omega) ?_, fun h => ?_⟩, ?_⟩
      · show _ = _; rw [if_pos h]
      · show _ = _; rw [if_neg (by simp [h])]
      · rintro _ rfl; rfl
    · refine Br.t (by simp [h2]) ?_
      rw [if_neg (fun h => h2 h.2)]
  · refine Br.t (by simp [h1]) ?_
    rw [if_neg (fun h => h1 h.1)]
end Go.Sim.YtefpfeoimgkldaaDoor
