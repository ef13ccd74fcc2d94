/- What is proved: sums of numbers as lists of digits. -/
import Derived.Test.YtomeghkmdcfolaaGreatDoorZPPBigY
import Derived.Test.YtomeghkmdcfolaaGreatDoorZPPWF4

namespace Go.Sim.YtomeghkmdcfolaaGreatDoor
open Go.RowKit Go.Proofs Go.Proofs.Tryz
theorem getD_none {l : List Nat} {i : Nat} (h : l.length <= i) : l.getD i 0 = 0 := by
 rw [List.getD_eq_getElem?_getD, List.getElem?_eq_none h]; rfl
theorem plus_ev (a b : Nat) (ha : (dig a).length <= 1000000) (hb : (dig b).length <= 1000000) : Ev_ref01_Plus (dg a) (dg b) (dg (a + b)) := by
 refine walk_ref01_Plus ?_
 unfold W_ref01_Plus
 rw [dl_len, dl_len]
 refine ⟨fun x y z => ∃ (o : List Nat) (c i : Nat), x = dl o /\ y = (c : Int) /\ z = (i : Int) /\ dOk o /\ o.length = i /\ i <= max (dig a).length (dig b).length /\ c <= 1 /\ dval ((dig a).take i) + dval ((dig b).take i) = dval o + 4294967296 ^ i * c, fun _ _ z => max (dig a).length (dig b).length - z.toNat, ⟨[], 0, 0, rfl, rfl, rfl, fun _ h => (by cases h), rfl, by omega, by omega, by simp [dval]⟩, ?_⟩
 rintro _ _ _ ⟨o, c, i, rfl, rfl, rfl, k1, k2, k3, k4, k5⟩
 refine ⟨fun x => x = decide (i < (dig a).length \/ i < (dig b).length), ?_, fun x hx => ?_⟩
 ·refine Br.d (fun h => ?_) (fun h => ?_)
  ·show _ = _; symm; rw [decide_eq_true_iff]; omega
  ·show _ = _; rw [decide_eq_decide]; omega
 subst hx
 refine Br.d (fun h => ?_) (fun h => ?_)
 ·have ga := getD_dig a i
  have gb := getD_dig b i
  refine ⟨fun x => x = ((c + (dig a).getD i 0 : Nat) : Int), ?_, fun x hx => ?_⟩
  ·refine Br.d (fun h1 => At.dl (by omega) fun d hd => Let.as (d : Int) (wu (by omega) (by have := dOk_dig a d (List.mem_of_getElem? hd); omega)) (Let.as ((c + d : Nat) : Int) (by have := dOk_dig a d (List.mem_of_getElem? hd); rw [wu (by omega) (by omega)]; omega) (by rw [getD_at hd]))) (fun h1 => by rw [getD_none (by omega)]; rfl)
  subst hx
  refine ⟨fun x => x = ((c + (dig a).getD i 0 + (dig b).getD i 0 : Nat) : Int), ?_, fun x hx => ?_⟩
  ·refine Br.d (fun h1 => At.dl (by omega) fun d hd => Let.as (d : Int) (wu (by omega) (by have := dOk_dig b d (List.mem_of_getElem? hd); omega)) (Let.as ((c + (dig a).getD i 0 + d : Nat) : Int) (by have := dOk_dig b d (List.mem_of_getElem? hd); rw [wu (by omega) (by omega)]; omega) (by rw [getD_at hd]))) (fun h1 => by rw [getD_none (l := dig b) (by omega)]; rfl)
  subst hx
  have hst := plus_step k2 k5 rfl
  have ht2 : c + (dig a).getD i 0 + (dig b).getD i 0 < 8589934592 := by omega
  generalize c + (dig a).getD i 0 + (dig b).getD i 0 = t at *
  refine Let.as _ (w32N t) ⟨by simp only [List.length_cons, List.length_nil, dl_len]; unfold maxLen; omega, by simp only [List.length_cons, List.length_nil, dl_len]; omega, Let.as (dl (o ++ [t % 4294967296])) (by rw [dl_app]; rfl) (Let.as ((t / 4294967296 : Nat) : Int) (shrC t 32) (Let.as ((i + 1 : Nat) : Int) (by rw [wi (by omega) (by omega)]; omega) ⟨⟨o ++ [t % 4294967296], t / 4294967296, i + 1, rfl, rfl, rfl, dOk_append.2 ⟨k1, fun x hx => by simp at hx; omega⟩, by simp; omega, by omega, by omega, hst⟩, by simp only [Int.toNat_natCast]; omega⟩))⟩
 ·rw [List.take_of_length_le (by omega), List.take_of_length_le (by omega), dval_dig, dval_dig] at k5
  have hend : dval (o ++ [c]) = a + b := by
   rw [dval_append, k2]; simp only [dval, Nat.mul_zero, Nat.add_zero]; exact k5.symm
  refine Let.as (c : Int) (by rw [w32N, Nat.mod_eq_of_lt (by omega)]) ⟨by simp only [List.length_cons, List.length_nil, dl_len]; unfold maxLen; omega, by simp only [List.length_cons, List.length_nil, dl_len]; omega, Let.as (dl (o ++ [c])) (by rw [dl_app]; rfl) ?_⟩
  rw [← hend]
  exact Call.mk (trim_ev (o ++ [c]) (dOk_append.2 ⟨k1, fun x hx => by simp at hx; omega⟩) (by simp; omega)) rfl
theorem dl_set (l : List Nat) (i y : Nat) : List.set (dl l) i ((y : Nat) : Int) = dl (l.set i y) := by simp [dl, List.map_set]
theorem by_ev (a b : Nat) (ha : (dig a).length <= 100000) (hb : (dig b).length <= 100000) : Ev_ref01_By (dg a) (dg b) (dg (a * b)) := by
 refine walk_ref01_By ?_
 unfold W_ref01_By
 rw [dl_len, dl_len]
 generalize hla : (dig a).length = la
 generalize hlb : (dig b).length = lb
 refine Let.as ((la + lb : Nat) : Int) (by rw [wi (by omega) (by omega)]; omega) (Let.as ((la + lb + 1 : Nat) : Int) (by rw [wi (by omega) (by omega)]; omega) ⟨by omega, by omega, by omega, Let.as (dl (List.replicate (la + lb + 1) 0)) (by rw [Int.toNat_natCast]; simp [dl]) ?_⟩)
 refine ⟨fun x z => ∃ (p : List Nat) (i : Nat), x = dl p /\ z = (i : Int) /\ dOk p /\ p.length = la + lb + 1 /\ i <= la /\ dval p = dval ((dig a).take i) * b, fun _ z => la - z.toNat, ⟨List.replicate (la + lb + 1) 0, 0, rfl, rfl, fun d hd => by (have := (List.mem_replicate.1 hd).2; omega), by simp, by omega, by simp [dval, dval_replicate]⟩, ?_⟩
 rintro _ _ ⟨p, i, rfl, rfl, k1, k2, k3, k4⟩
 refine Br.d (fun h => ?_) (fun h => ?_)
 ·obtain ⟨d, hd⟩ : ∃ d, (dig a)[i]? = some d := ⟨_, List.getElem?_eq_getElem (by omega)⟩
  have hd0 := dOk_dig a d (List.mem_of_getElem? hd)
  obtain ⟨f0, hf0⟩ : ∃ f, p[i + lb]? = some f := ⟨_, List.getElem?_eq_getElem (by omega)⟩
  have hz0 : f0 = 0 := high_zero hf0 (by rw [k4]; exact take_mul_lt hlb (by omega))
  subst hz0
  refine ⟨fun x y z => ∃ (q : List Nat) (c j : Nat), x = dl q /\ y = (c : Int) /\ z = (j : Int) /\ dOk q /\ q.length = la + lb + 1 /\ j <= lb /\ c < 4294967296 /\ q[i + lb]? = some 0 /\ dval q + 4294967296 ^ (i + j) * c = dval ((dig a).take i) * b + 4294967296 ^ i * (d * dval ((dig b).take j)), fun _ _ z => lb - z.toNat,
   ⟨p, 0, 0, rfl, rfl, rfl, k1, k2, by omega, by omega, hf0, by rw [k4]; simp [dval]⟩, ?_⟩
  rintro _ _ _ ⟨q, c, j, rfl, rfl, rfl, m1, m2, m3, m4, m5, m6⟩
  refine Br.d (fun h2 => ?_) (fun h2 => ?_)
  ·refine At.dl (by omega) fun d' hd' => ?_
   rw [hd] at hd'; cases hd'
   refine Let.as (d : Int) (wu (by omega) (by omega)) (At.dl (by omega) fun e he => ?_)
   have he0 := dOk_dig b e (List.mem_of_getElem? he)
   have hde : d * e <= 4294967295 * 4294967295 := Nat.mul_le_mul (by omega) (by omega)
   refine Let.as (e : Int) (wu (by omega) (by omega)) (Let.as ((d * e : Nat) : Int) (by rw [← Int.natCast_mul, wu (by omega) (by omega)]) (Let.as ((i + j : Nat) : Int) (by rw [wi (by omega) (by omega)]; omega) (At.dl (by omega) fun f hf => ?_)))
   have hf1 := m1 f (List.mem_of_getElem? hf)
   have hst := by_step hf (getD_at he) rfl m6
   refine Let.as (f : Int) (wu (by omega) (by omega)) (Let.as ((d * e + f : Nat) : Int) (by rw [wu (by omega) (by omega)]; omega) (Let.as ((d * e + f + c : Nat) : Int) (by rw [wu (by omega) (by omega)]; omega) (Let.as ((i + j : Nat) : Int) (by rw [wi (by omega) (by omega)]; omega) ?_)))
   have ht2 : d * e + f + c < 18446744073709551616 := by omega
   generalize d * e + f + c = t at *
   refine Let.as _ (w32N t) (At.dl (by omega) fun f' hf' => Let.as ((t / 4294967296 : Nat) : Int) (shrC t 32) (Let.as ((j + 1 : Nat) : Int) (by rw [wi (by omega) (by omega)]; omega) ⟨⟨q.set (i + j) (t % 4294967296), t / 4294967296, j + 1, by rw [Int.toNat_natCast, dl_set], rfl, rfl, dOk_set m1 (by omega), by rw [List.length_set]; exact m2, by omega, by omega, by rw [List.getElem?_set_ne (by omega)]; exact m5, hst⟩, by simp only [Int.toNat_natCast]; omega⟩))
  ·have hj : j = lb := by omega
   subst hj
   have hend := by_end hlb m4 m5 (getD_at hd) m6
   refine Let.as ((i + j : Nat) : Int) (by rw [wi (by omega) (by omega)]; omega) (Let.as _ (w32N c) (At.dl (by omega) fun f hf => Let.as ((i + 1 : Nat) : Int) (by rw [wi (by omega) (by omega)]; omega) ⟨⟨q.set (i + j) (c % 4294967296), i + 1, by rw [Int.toNat_natCast, dl_set], rfl, dOk_set m1 (by omega), by rw [List.length_set]; exact m2, by omega, hend⟩, by simp only [Int.toNat_natCast]; omega⟩))
 ·rw [List.take_of_length_le (by omega), dval_dig] at k4
  rw [← k4]
  exact Call.mk (trim_ev p k1 (by omega)) rfl
theorem dg_len0 (m : Nat) : (((dg m).length : Nat) : Int) = 0 ↔ m = 0 := by
 rw [dl_len]
 constructor
 ·intro h; exact dig_nil.1 (List.eq_nil_of_length_eq_zero (by omega))
 ·intro h; subst h; rw [dig_zero]; rfl
end Go.Sim.YtomeghkmdcfolaaGreatDoor

/- What is proved: the reference's quotients of whole numbers: how often, what is made. -/
namespace Go.Sim.YtomeghkmdcfolaaGreatDoor
open Go.RowKit Go.Proofs Go.Proofs.Tryz
theorem quo_ev (a b : Nat) (ha : (dig a).length <= 10000) (hb : (dig b).length <= 10000) (hb0 : b ≠ 0) : Ev_ref11_Quo (dg a) (dg b) (dg (a / b)) := by
 have la := blen_dig_len ha
 have lb := blen_dig_len hb
 refine walk_ref11_Quo ?_
 unfold W_ref11_Quo
 refine Call.mk (bits_ev a (by omega)) (Call.mk (bits_ev b (by omega)) (Let.as ((blen a : Int) - (blen b : Int)) (wi (by omega) (by omega)) ?_))
 refine ⟨fun x y k => ∃ A q : Nat, x = dg A /\ y = dg q /\ a = b * (q * 2 ^ (k + 1).toNat) + A /\ A < b * 2 ^ (k + 1).toNat /\ k <= 320000, fun _ _ k => (k + 1).toNat, ⟨a, 0, rfl, by rw [dg, dig_zero]; rfl, by rw [Nat.zero_mul, Nat.mul_zero, Nat.zero_add], div_init hb0, by omega⟩, ?_⟩
 rintro _ _ k ⟨A, q, rfl, rfl, k1, k3, k4⟩
 have hAa : A <= a := by rw [k1]; omega
 have lA : (dig A).length <= 10000 := by have := dig_len_le hAa; omega
 refine Br.d (fun c => ?_) (fun c => ?_)
 ·obtain ⟨m, rfl⟩ := Int.eq_ofNat_of_zero_le c
  have hsh : (dig (b * 2 ^ m)).length <= 1000000 := by
   have h1 := dig_len_blen (b * 2 ^ m)
   have h2 := blen_mul_pow b m
   omega
  have e1 : ((m : Int) + 1).toNat = m + 1 := by omega
  rw [e1, Nat.pow_succ] at k1 k3
  have hb1 : 1 <= b := by omega
  have hqa : q <= a := by
   have h1 : q * 1 <= q * (2 ^ m * 2) := Nat.mul_le_mul_left _ (by have := Nat.two_pow_pos m; omega)
   have h2 : 1 * (q * (2 ^ m * 2)) <= b * (q * (2 ^ m * 2)) := Nat.mul_le_mul_right _ hb1
   omega
  have hq2 : q * 2 ^ 1 <= a := by
   have h1 : q * 2 <= q * (2 ^ m * 2) := Nat.mul_le_mul_left _ (by have := Nat.two_pow_pos m; omega)
   have h2 : 1 * (q * (2 ^ m * 2)) <= b * (q * (2 ^ m * 2)) := Nat.mul_le_mul_right _ hb1
   omega
  have lq : (dig q).length <= 10000 := by have := dig_len_le hqa; omega
  have lq2 : (dig (q * 2 ^ 1)).length <= 10000 := by have := dig_len_le hq2; omega
  have l1 : (dig 1).length <= 1000000 := by
   have := dig_length (n := 1) (k := 1) (by decide); omega
  have assoc : ∀ x : Nat, b * (x * 2 * 2 ^ m) = b * (x * (2 ^ m * 2)) := fun x => by rw [Nat.mul_assoc x 2, Nat.mul_comm 2]
  refine Call.mk (left_ev b m (by omega) (by omega)) (Call.mk (left_ev q 1 (by omega) (by omega)) (Call.mk (cmp_ev _ A hsh) ⟨fun x y => ∃ A' q' : Nat, x = dg A' /\ y = dg q' /\ a = b * (q' * 2 ^ m) + A' /\ A' < b * 2 ^ m, ?_, ?_⟩))
  ·refine ⟨fun h => ?_, fun h => ?_⟩
   ·have hle := cmpS_le h
    refine Call.mk (less_ev A (b * 2 ^ m) (by omega) hle) (Call.mk (of_ev 1 (by decide)) (Call.mk (plus_ev _ 1 (by omega) l1) ⟨A - b * 2 ^ m, q * 2 ^ 1 + 1, rfl, rfl, ?_, ?_⟩))
    ·rw [Nat.pow_one, Nat.add_mul, Nat.one_mul, Nat.mul_add, assoc]; omega
    ·rw [← Nat.mul_assoc] at k3; omega
   ·refine ⟨A, q * 2 ^ 1, rfl, rfl, ?_, cmpS_gt h⟩
    rw [Nat.pow_one, assoc]; exact k1
  ·rintro _ _ ⟨A', q', rfl, rfl, q1, q3⟩
   refine Let.as ((m : Int) - 1) (wi (by omega) (by omega)) ⟨⟨A', q', rfl, rfl, ?_, ?_, by omega⟩, ?_⟩
   ·rw [show ((m : Int) - 1 + 1).toNat = m by omega]; exact q1
   ·rw [show ((m : Int) - 1 + 1).toNat = m by omega]; exact q3
   ·show ((m : Int) - 1 + 1).toNat < ((m : Int) + 1).toNat; omega
 ·have e1 : (k + 1).toNat = 0 := by omega
  rw [e1, Nat.pow_zero, Nat.mul_one] at k1 k3
  show dg q = dg (a / b)
  rw [k1, Nat.mul_add_div (by omega), Nat.div_eq_of_lt k3, Nat.add_zero]
theorem reflow_ev (a : Nat) (ha : (dig a).length <= 10000) : Ev_ref11_low (dg a) (IntKind.i64.wrap ((a % 18446744073709551616 : Nat) : Int), decide (blen a <= 63)) := by
 have la := blen_dig_len ha
 have hl : (dg a).length = (dig a).length := dl_len _
 refine walk_ref11_low ?_
 unfold W_ref11_low
 refine Let.as (((dig a).length : Int) - 1) (by rw [hl]; exact wi (by omega) (by omega)) ?_
 refine ⟨fun n i => ∃ k : Nat, k <= (dig a).length /\ i = (k : Int) - 1 /\ n = ((dval ((dig a).drop k) % 18446744073709551616 : Nat) : Int), fun _ i => (i + 1).toNat, ⟨(dig a).length, Nat.le_refl _, rfl, by rw [List.drop_length]; rfl⟩, ?_⟩
 rintro _ _ ⟨k, hk, rfl, rfl⟩
 refine Br.d (fun c => ?_) (fun c => ?_)
 ·obtain ⟨m, rfl⟩ : ∃ m, k = m + 1 := ⟨k - 1, by omega⟩
  have hm : (((m + 1 : Nat) : Int) - 1) = (m : Int) := by omega
  rw [hm]
  obtain ⟨d, hd⟩ : ∃ d, (dig a)[m]? = some d := ⟨_, List.getElem?_eq_getElem (by omega)⟩
  have hdl := dOk_dig a d (List.mem_of_getElem? hd)
  have hdv := dval_drop hd
  refine Let.as ((dval ((dig a).drop (m + 1)) * 4294967296 % 18446744073709551616 : Nat) : Int) (by rw [wuM]; omega) ?_
  refine At.dl (l := dig a) (by omega) fun d' hd' => ?_
  rw [hd] at hd'; cases hd'
  refine Let.as ((d : Nat) : Int) (by rw [wu (by omega) (by omega)]) (Let.as ((dval ((dig a).drop m) % 18446744073709551616 : Nat) : Int) (by rw [or_ok' (s := 32) (by omega) (by omega) (by omega) (by omega), hdv]; congr 1; omega) (Let.as ((m : Int) - 1) (wi (by omega) (by omega)) ⟨⟨m, by omega, rfl, rfl⟩, ?_⟩))
  show ((m : Int) - 1 + 1).toNat < ((m : Int) + 1).toNat; omega
 ·have hk0 : k = 0 := by omega
  subst hk0
  rw [List.drop_zero, dval_dig]
  refine Let.it (Call.mk (bits_ev a (by omega)) ?_)
  show (_, decide (((blen a : Nat) : Int) <= 63)) = _
  congr 1
  rw [decide_eq_decide]; omega
theorem low_small {a : Nat} (h : a < 9223372036854775808) : IntKind.i64.wrap ((a % 18446744073709551616 : Nat) : Int) = (a : Int) := by
 rw [Nat.mod_eq_of_lt (by omega), wi (by omega) (by omega)]
theorem refOf_ev (s : Bool) (n d : Nat) (hn : (dig n).length <= 10000) (hd : (dig d).length <= 10000) (hd0 : d ≠ 0) : Ev_ref11_Of s (dg n) (dg d) (toR (madeS s n d)) := by
 refine walk_ref11_Of ?_
 unfold W_ref11_Of
 by_cases h0 : n = 0
 ·subst h0
  refine Br.t (beq_iff_eq.2 ((dg_len0 0).2 rfl)) ?_
  rw [madeS_zero hd0]
 have hg : Nat.gcd n d ≠ 0 := by
  intro h
  exact hd0 (Nat.eq_zero_of_gcd_eq_zero_right h)
 have hgl : (dig (Nat.gcd n d)).length <= 10000 := by
  have := dig_len_le (Nat.gcd_le_right n (Nat.pos_of_ne_zero hd0)); omega
 have hxl : (dig (n / Nat.gcd n d)).length <= 10000 := by have := dig_len_le (Nat.div_le_self n (Nat.gcd n d)); omega
 have hyl : (dig (d / Nat.gcd n d)).length <= 10000 := by have := dig_len_le (Nat.div_le_self d (Nat.gcd n d)); omega
 have bl : ∀ x : Nat, decide (blen x <= 63) = decide (x < 9223372036854775808) := fun x => by rw [decide_eq_decide]; exact blen_le x 63
 refine Br.f (by
  rw [Bool.eq_false_iff]
  intro h
  exact h0 ((dg_len0 n).1 (by simpa using h))) ?_
 refine Call.mk (common_ev n d hn hd) (Call.mk (quo_ev n _ hn hgl hg) (Call.mk (reflow_ev _ hxl) (Call.mk (quo_ev d _ hd hgl hg) (Call.mk (reflow_ev _ hyl) ?_))))
 rw [bl, bl]
 unfold madeS
 generalize n / Nat.gcd n d = X
 generalize d / Nat.gcd n d = Y
 by_cases h1 : X < 9223372036854775808
 ·refine Br.f (by simp [h1]) ?_
  by_cases h2 : Y < 9223372036854775808
  ·refine Br.f (by simp [h2]) ?_
   rw [if_pos ⟨h1, h2⟩, low_small h1, low_small h2]
   refine ⟨fun x => x = if s = true then -(X : Int) else (X : Int), ⟨fun h => Let.as (-(X : Int)) (by rw [wi (by omega) (by omega)]; omega) ?_, fun h => ?_⟩, ?_⟩
   ·show _ = _; rw [if_pos h]
   ·show _ = _; rw [if_neg (by simp [h])]
   ·rintro _ rfl; rfl
  ·refine Br.t (by simp [h2]) ?_
   rw [if_neg (fun h => h2 h.2)]
 ·refine Br.t (by simp [h1]) ?_
  rw [if_neg (fun h => h1 h.1)]
end Go.Sim.YtomeghkmdcfolaaGreatDoor

/- Nothing: the walks of orreryref11.Read stand in WF4. -/
