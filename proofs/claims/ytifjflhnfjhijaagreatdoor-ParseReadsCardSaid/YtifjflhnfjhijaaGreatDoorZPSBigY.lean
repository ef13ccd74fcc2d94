/- What is proved: numbers as lists of digits of 32 bits: what the reference's functions make of them (the order, the bits, shifts, differences, rests, the greatest common divisor). -/
import Derived.Test.YtifjflhnfjhijaaGreatDoorZPSWF4
import Derived.Test.YtifjflhnfjhijaaGreatDoorZPSExtB
import Derived.Test.YtifjflhnfjhijaaGreatDoorZPSWE

namespace Go.Sim.YtifjflhnfjhijaaGreatDoor
open Go.RowKit Go.Proofs Go.Proofs.Tryz
def dl (l : List Nat) : List Int := l.map fun (d : Nat) => (d : Int)
abbrev dg (n : Nat) : List Int := dl (dig n)
theorem q2v (l : List Nat) : (dl l).length = l.length := by simp [dl]
theorem qMh (l m : List Nat) : dl (l ++ m) = dl l ++ dl m := by simp [dl]
theorem z07 {l : List Nat} {i : Nat} {x : Int} (h : (dl l)[i]? = some x) : ∃ d : Nat, l[i]? = some d /\ x = (d : Int) := by
 simp only [dl, List.getElem?_map, Option.map_eq_some_iff] at h
 obtain ⟨d, h1, h2⟩ := h
 exact ⟨d, h1, h2.symm⟩
theorem At.dl {l : List Nat} {i : Nat} {K : Int -> Prop} (h : i < l.length) (hk : ∀ d : Nat, l[i]? = some d -> K (d : Int)) : At (dl l) (i : Int) K :=
 At.nat (by rw [q2v]; exact h) fun x hx => by obtain ⟨d, h1, rfl⟩ := z07 hx; exact hk d h1
theorem qJ7 (l0 : List Nat) (h0 : dOk l0) (hb : l0.length <= 10000000) : q2y (dl l0) (dg (dval l0)) := by
  refine qJ3 ?_
  unfold qCl
  refine ⟨fun z => ∃ l : List Nat, z = dl l /\ dOk l /\ l.length <= 10000000 /\ dval l = dval l0, fun z => z.length, ⟨l0, rfl, h0, hb, rfl⟩, ?_⟩
  rintro _ ⟨l, rfl, k1, k2, k3⟩
  rw [q2v]
  refine Br.d (fun c => Let.as ((l.length - 1 : Nat) : Int) (by rw [wi (by omega) (by omega)]; omega) (At.dl (by omega) fun d hd => ?_)) (fun c => ?_)
  · have hsp := qEl hd
    have hdr : l.drop (l.length - 1 + 1) = [] := List.drop_eq_nil_of_le (by omega)
    rw [hdr] at hsp
    refine Br.e (fun e => ?_) (fun e => ?_)
    · have d0 : d = 0 := by omega
      subst d0
      have hdv : dval (l.take (l.length - 1)) = dval l := by conv => rhs; rw [hsp]
                                                             rw [qPk]
      refine Let.as ((l.length - 1 : Nat) : Int) (by rw [wi (by omega) (by omega)]; omega) ⟨by omega, by omega, by rw [q2v]; omega, Let.as (dl (l.take (l.length - 1))) ?_ ⟨⟨l.take (l.length - 1), rfl, fun x hx => k1 x (List.mem_of_mem_take hx), by simp; omega, by rw [hdv, k3]⟩, ?_⟩⟩
      · simp [dl, List.map_take]
      · simp [dl]; omega
    · show dl l = dl (dig (dval l0))
      rw [← k3, qT3 k1]
      intro m d' he
      have : l[l.length - 1]? = some d' := by rw [he]; simp
      rw [hd] at this
      have : d = d' := by simpa using this
      omega
  · have : l = [] := List.eq_nil_of_length_eq_zero (by omega)
    subst this
    have : dval l0 = 0 := by rw [← k3]; rfl
    rw [this, dg, q4b]
theorem qNr (n : Nat) (h : n < 18446744073709551616) : q2f (n : Int) (dg n) := by
 refine qL7 ?_
 unfold qG2
 refine Let.as _ (w32N n) (Let.as ((n / 4294967296 : Nat) : Int) (shrC n 32) (Let.as _ (w32N _) (Call.mk (x := dg n) ?_ rfl)))
 have := qJ7 [n % 4294967296, n / 4294967296 % 4294967296] (by intro d hd; simp at hd; omega) (by simp)
 have e : dval [n % 4294967296, n / 4294967296 % 4294967296] = n := by simp only [dval]; omega
 rw [e] at this
 exact this
theorem qNs : q5r (dg 1) := by
 refine qJz ?_
 unfold qE6
 exact Call.mk (qNr 1 (by decide)) rfl
theorem qLa {n : Int} (h : Sim.inI n) : q4e n (dg n.natAbs) := by
 unfold Sim.inI at h
 refine qIx ?_
 unfold qCf
 refine Br.d (fun a => Let.as (n + 18446744073709551616) (by rw [wuM]; omega) (Let.as ((n.natAbs : Nat) : Int) (by rw [wuM]; omega) (Call.mk (qNr _ (by omega)) rfl))) (fun a => Let.as ((n.natAbs : Nat) : Int) (by rw [wuM]; omega) (Call.mk (qNr _ (by omega)) rfl))
theorem Loop1.down {b : Int -> (Int -> Prop) -> Prop} (n : Nat) (P : Nat -> Prop) (h0 : P n) (st : ∀ (i : Nat) (k : Int -> Prop), i < n -> P (i + 1) -> (P i -> k ((i : Int) - 1)) -> b (i : Int) k) (he : ∀ k, P 0 -> b (-1) k) : Loop1 ((n : Int) - 1) b := by
 refine ⟨fun z => ∃ j : Nat, z = (j : Int) - 1 /\ j <= n /\ P j, fun z => (z + 1).toNat, ⟨n, rfl, Nat.le_refl _, h0⟩, ?_⟩
 rintro _ ⟨j, rfl, hj, hP⟩
 cases j with
 | zero => exact he _ hP
 | succ j =>
  have e : ((j + 1 : Nat) : Int) - 1 = (j : Int) := by omega
  rw [e]
  refine st j _ (by omega) hP fun h => ⟨⟨j, rfl, by omega, h⟩, ?_⟩
  show ((j : Int) - 1 + 1).toNat < ((j : Int) + 1).toNat
  omega
theorem qRo (a b : Nat) (ha : (dig a).length <= 1000000) : q7o (dg a) (dg b) (cmpS a b) := by
 refine qJy ?_
 unfold qE5
 rw [q2v, q2v]
 by_cases hl : (dig a).length = (dig b).length
 ·refine Br.f (by rw [hl]; simp) (Let.as (((dig a).length : Int) - 1) (wi (by omega) (by omega)) ?_)
  refine Loop1.down (dig a).length (fun i => (dig a).drop i = (dig b).drop i) (by rw [List.drop_eq_nil_of_le (Nat.le_refl _), List.drop_eq_nil_of_le (by omega)]) (fun i k hi hP hk => ?_) (fun k hP => Br.dF (by omega) ?_)
  ·refine Br.dT (by omega) (At.dl hi fun d hd => At.dl (by omega) fun e he => Br.d (fun c => ?_) (fun c => At.dl hi fun d' hd' => At.dl (by omega) fun e' he' => Br.d (fun c' => ?_) (fun c' => Let.as _ (wi (by omega) (by omega)) (hk ?_))))
   ·have := qLz hl hd he hP (by omega)
    unfold cmpS; rw [if_pos this]
   ·rw [hd] at hd'; rw [he] at he'; cases hd'; cases he'
    have := qLz hl.symm he hd hP.symm (by omega)
    unfold cmpS; rw [if_neg (by omega), if_pos this]
   ·rw [hd] at hd'; rw [he] at he'; cases hd'; cases he'
    have hde : d = e := by omega
    subst hde
    obtain ⟨l1, g1⟩ := List.getElem?_eq_some_iff.1 hd
    obtain ⟨l2, g2⟩ := List.getElem?_eq_some_iff.1 he
    rw [List.drop_eq_getElem_cons l1, List.drop_eq_getElem_cons l2, g1, g2, hP]
  ·have : a = b := qV7 (by simpa using hP)
   subst this
   unfold cmpS; rw [if_neg (by omega), if_neg (by omega)]
 ·refine Br.t (by simp; omega) (Br.d (fun c => ?_) (fun c => ?_))
  ·have := qD1 (a := a) (b := b) (by omega)
   unfold cmpS; rw [if_pos this]
  ·have := qD1 (a := b) (b := a) (by omega)
   unfold cmpS; rw [if_neg (by omega), if_pos this]
theorem qJ8 (a : Nat) (ha : (dig a).length <= 1000000) : q31 (dg a) ((blen a : Nat) : Int) := by
 refine qJ1 ?_
 unfold qCj
 rw [q2v]
 refine Br.e (fun c => ?_) (fun c => ?_)
 ·have : a = 0 := qI2.1 (List.eq_nil_of_length_eq_zero (by omega))
  subst this; rw [qI4]; rfl
 ·have a0 : a ≠ 0 := by intro e; subst e; rw [q4b] at c; simp at c
  obtain ⟨m, d, h1, h2, h3, h4, h5⟩ := qQs a0
  have hlen : (dig a).length = m.length + 1 := by rw [h1]; simp
  refine Let.as (((dig a).length - 1 : Nat) : Int) (by rw [wi (by omega) (by omega)]; omega) (Let.as ((32 * m.length : Nat) : Int) (by rw [wi (by omega) (by omega)]; omega) (Let.as (m.length : Int) (by rw [wi (by omega) (by omega)]; omega) (At.dl (by omega) fun d' hd' => ?_)))
  rw [h1] at hd'
  have : d' = d := by simpa using hd'.symm
  subst this
  refine ⟨fun x y => ∃ e n : Nat, y = (e : Int) /\ x = (n : Int) /\ e < 4294967296 /\ n + blen e = blen a, fun _ y => y.toNat, ⟨d', 32 * m.length, rfl, rfl, h4, by omega⟩, ?_⟩
  rintro _ _ ⟨e, n, rfl, rfl, k1, k2⟩
  have hbl := q5q (n := a) (k := 1000000) ha
  refine Br.d (fun g => Let.as ((n + 1 : Nat) : Int) (by rw [wi (by omega) (by omega)]; omega) (Let.as ((e / 2 : Nat) : Int) (by rw [shrC]) ⟨⟨e / 2, n + 1, rfl, rfl, by omega, by rw [← k2, qEm (n := e) (by omega)]; omega⟩, by simp only [Int.toNat_natCast]; omega⟩)) (fun g => ?_)
  have : e = 0 := by omega
  subst this
  rw [qI4] at k2
  show (n : Int) = _
  omega
theorem qE9 {l : List Nat} {i d : Nat} (h : l[i]? = some d) : l.getD i 0 = d := by rw [List.getD_eq_getElem?_getD, h]; rfl
theorem qRp (a b : Nat) (ha : (dig a).length <= 1000000) (hab : b <= a) : q8h (dg a) (dg b) (dg (a - b)) := by
 refine qJ0 ?_
 unfold qCi
 rw [q2v, q2v]
 refine ⟨fun x y z => ∃ (o : List Nat) (r i : Nat), x = dl o /\ y = (r : Int) /\ z = (i : Int) /\ dOk o /\ o.length = i /\ i <= (dig a).length /\ r <= 1 /\ dval ((dig a).take i) + 4294967296 ^ i * r = dval o + dval ((dig b).take i), fun _ _ z => (dig a).length - z.toNat, ⟨[], 0, 0, rfl, rfl, rfl, fun _ h => (by cases h), rfl, by omega, by omega, by simp [dval]⟩, ?_⟩
 rintro _ _ _ ⟨o, r, i, rfl, rfl, rfl, k1, k2, k3, k4, k5⟩
 refine Br.d (fun c => At.dl (by omega) fun d hd => ?_) (fun c => ?_)
 ·have hd0 := q59 a d (List.mem_of_getElem? hd)
  refine Let.as (d : Int) (wi (by omega) (by omega)) (Let.as ((d : Int) - r) (wi (by omega) (by omega)) ?_)
  refine ⟨fun x => x = (d : Int) - r - ((dig b).getD i 0 : Nat), ?_, fun x hx => ?_⟩
  ·refine Br.d (fun c2 => At.dl (by omega) fun e he => ?_) (fun c2 => ?_)
   ·have he0 := q59 b e (List.mem_of_getElem? he)
    exact Let.as (e : Int) (wi (by omega) (by omega)) (Let.as _ (wi (by omega) (by omega)) (by rw [qE9 he]))
   ·have : (dig b)[i]? = none := List.getElem?_eq_none (by omega)
    rw [List.getD_eq_getElem?_getD, this]; simp
  ·have gb := qKt b i
   have ga := qE9 hd
   subst hx
   obtain ⟨y, r1, hy, hr1, hyl, hst⟩ : ∃ y r1 : Nat, y < 4294967296 /\ r1 <= 1 /\ (y : Int) = (d : Int) - r - ((dig b).getD i 0 : Nat) + 4294967296 * r1 /\ y + r + (dig b).getD i 0 = (dig a).getD i 0 + 4294967296 * r1 := by
    by_cases hneg : (d : Int) - r - ((dig b).getD i 0 : Nat) < 0
    ·exact ⟨((d : Int) - r - ((dig b).getD i 0 : Nat) + 4294967296).toNat, 1, by omega, by omega, by omega, by omega⟩
    ·exact ⟨((d : Int) - r - ((dig b).getD i 0 : Nat)).toNat, 0, by omega, by omega, by omega, by omega⟩
   refine ⟨fun p q => p = (r1 : Int) /\ q = (y : Int), ?_, fun p q hpq => ?_⟩
   ·exact Br.d (fun c3 => Let.as _ (wi (by omega) (by omega)) ⟨by omega, by omega⟩) (fun c3 => ⟨by omega, by omega⟩)
   ·obtain ⟨hp, hq⟩ := hpq
    rw [hp, hq]
    refine Let.as (y : Int) (by rw [w32N]; omega) ⟨by simp only [List.length_cons, List.length_nil, q2v]; unfold maxLen; omega, by simp only [List.length_cons, List.length_nil, q2v]; omega, Let.as (dl (o ++ [y])) (by rw [qMh]; rfl) (Let.as ((i + 1 : Nat) : Int) (by rw [wi (by omega) (by omega)]; omega) ⟨⟨o ++ [y], r1, i + 1, rfl, rfl, rfl, q8m.2 ⟨k1, fun x hx => by simp at hx; omega⟩, by simp; omega, by omega, hr1, qQu k2 k5 hst⟩, by simp only [Int.toNat_natCast]; omega⟩)⟩
 ·have hi : i = (dig a).length := by omega
  have := qT5 hi hab k1 k2 k5
  rw [← this]
  exact Call.mk (qJ7 o k1 (by omega)) rfl
theorem qNt (a n : Nat) (ha : (dig a).length <= 100000) (hn : n <= 3200000) : q69 (dg a) (n : Int) (dg (a * 2 ^ n)) := by
 refine qJ2 ?_
 unfold qCk
 rw [q2v]
 refine Br.e (fun c => ?_) (fun c => ?_)
 ·have : a = 0 := qI2.1 (List.eq_nil_of_length_eq_zero (by omega))
  subst this; rw [Nat.zero_mul]
 ·have hs : n % 32 < 32 := Nat.mod_lt _ (by decide)
  refine Let.as ((n / 32 : Nat) : Int) (by rw [show Int.tdiv (n : Int) 32 = ((n / 32 : Nat) : Int) from rfl, wi (by omega) (by omega)]) ⟨by omega, by omega, by omega, Let.as (dl (List.replicate (n / 32) 0)) (by rw [Int.toNat_natCast]; simp [dl]) ?_⟩
  refine ⟨fun x y z => ∃ (o : List Nat) (r i : Nat), x = dl o /\ y = (r : Int) /\ z = (i : Int) /\ dOk o /\ o.length = n / 32 + i /\ i <= (dig a).length /\ r < 2 ^ (n % 32) /\ dval o + 4294967296 ^ (n / 32 + i) * r = 4294967296 ^ (n / 32) * (dval ((dig a).take i) * 2 ^ (n % 32)), fun _ _ z => (dig a).length - z.toNat,
   ⟨List.replicate (n / 32) 0, 0, 0, rfl, rfl, rfl, fun d hd => by (have := (List.mem_replicate.1 hd).2; omega), by simp, by omega, Nat.two_pow_pos _, by simp [dval, qDo]⟩, ?_⟩
  rintro _ _ _ ⟨o, r, i, rfl, rfl, rfl, k1, k2, k3, k4, k5⟩
  have h32 : 2 ^ (n % 32) <= 2 ^ 31 := Nat.pow_le_pow_right (by omega) (by omega)
  simp only [Nat.reducePow] at h32
  refine Br.d (fun c2 => At.dl (by omega) fun d hd => ?_) (fun c2 => ?_)
  ·have hd0 := q59 a d (List.mem_of_getElem? hd)
   have hcl := qT6 k4 hd0
   have hbig : r + d * 2 ^ (n % 32) < 18446744073709551616 := by
    have : d * 2 ^ (n % 32) <= 4294967295 * 2147483648 := Nat.mul_le_mul (by omega) h32
    omega
   have hst := qQv k2 k5 (qE9 hd)
   refine Let.as (d : Int) (wu (by omega) (by omega)) (Let.as ((n % 32 : Nat) : Int) rfl (Let.as ((n % 32 : Nat) : Int) (wu (by omega) (by omega)) ⟨by omega, Let.as ((d * 2 ^ (n % 32) : Nat) : Int) (qWl hd0 hs) (Let.as ((r + d * 2 ^ (n % 32) : Nat) : Int) (qYy k4 (Nat.mul_mod_left _ _) (by omega) (by omega)) ?_)⟩))
   generalize r + d * 2 ^ (n % 32) = t at *
   refine Let.as _ (w32N t) ⟨by simp only [List.length_cons, List.length_nil, q2v]; unfold maxLen; omega, by simp only [List.length_cons, List.length_nil, q2v]; omega, Let.as (dl (o ++ [t % 4294967296])) (by rw [qMh]; rfl) (Let.as ((t / 4294967296 : Nat) : Int) (shrC t 32) (Let.as ((i + 1 : Nat) : Int) (by rw [wi (by omega) (by omega)]; omega) ⟨⟨o ++ [t % 4294967296], t / 4294967296, i + 1, rfl, rfl, rfl, q8m.2 ⟨k1, fun x hx => by simp at hx; omega⟩, by simp; omega, by omega, hcl, hst⟩, by simp only [Int.toNat_natCast]; omega⟩))⟩
  ·have hend := qT7 (a := a) (by omega) k2 k5
   refine Let.as (r : Int) (by rw [w32N, Nat.mod_eq_of_lt (by omega)]) ⟨by simp only [List.length_cons, List.length_nil, q2v]; unfold maxLen; omega, by simp only [List.length_cons, List.length_nil, q2v]; omega, Let.as (dl (o ++ [r])) (by rw [qMh]; rfl) ?_⟩
   rw [← hend]
   exact Call.mk (qJ7 (o ++ [r]) (q8m.2 ⟨k1, fun x hx => by simp at hx; omega⟩) (by simp; omega)) rfl
theorem qVp (a b : Nat) (ha : (dig a).length <= 10000) (hb : (dig b).length <= 10000) (hb0 : b ≠ 0) : qAi (dg a) (dg b) (dg (a % b)) := by
 have la := q5q ha
 have lb := q5q hb
 refine qIy ?_
 unfold qCg
 refine Call.mk (qJ8 a (by omega)) (Call.mk (qJ8 b (by omega)) (Let.as ((blen a : Int) - (blen b : Int)) (wi (by omega) (by omega)) ?_))
 refine ⟨fun x k => ∃ A : Nat, x = dg A /\ A % b = a % b /\ A <= a /\ A < b * 2 ^ (k + 1).toNat /\ k <= 320000, fun _ k => (k + 1).toNat, ⟨a, rfl, rfl, Nat.le_refl _, qOk hb0, by omega⟩, ?_⟩
 rintro _ k ⟨A, rfl, k1, k2, k3, k4⟩
 have lA : (dig A).length <= 10000 := by have := q4c k2; omega
 refine Br.d (fun c => ?_) (fun c => ?_)
 ·obtain ⟨m, rfl⟩ := Int.eq_ofNat_of_zero_le c
  have hsh : (dig (b * 2 ^ m)).length <= 1000000 := by
   have h1 := qGg (b * 2 ^ m)
   have h2 := qGh b m
   omega
  have e1 : ((m : Int) + 1).toNat = m + 1 := by omega
  rw [e1, Nat.pow_succ] at k3
  refine Call.mk (qNt b m (by omega) (by omega)) (Call.mk (qRo _ A hsh) ⟨fun x => ∃ A' : Nat, x = dg A' /\ A' % b = a % b /\ A' <= a /\ A' < b * 2 ^ m, ?_, ?_⟩)
  ·refine ⟨fun h => ?_, fun h => ?_⟩
   ·have hle := qQy h
    refine Call.mk (qRp A (b * 2 ^ m) (by omega) hle) ⟨_, rfl, by rw [qNe hle, k1], by omega, ?_⟩
    rw [← Nat.mul_assoc] at k3; omega
   ·exact ⟨A, rfl, k1, k2, qQz h⟩
  ·rintro _ ⟨A', rfl, q1, q2, q3⟩
   refine Let.as ((m : Int) - 1) (wi (by omega) (by omega)) ⟨⟨A', rfl, q1, q2, ?_, by omega⟩, ?_⟩
   ·rw [show ((m : Int) - 1 + 1).toNat = m by omega]; exact q3
   ·show ((m : Int) - 1 + 1).toNat < ((m : Int) + 1).toNat; omega
 ·have e1 : (k + 1).toNat = 0 := by omega
  rw [e1, Nat.pow_zero, Nat.mul_one] at k3
  rw [← k1, Nat.mod_eq_of_lt k3]
theorem qMi (a b : Nat) (ha : (dig a).length <= 10000) (hb : (dig b).length <= 10000) : q66 (dg a) (dg b) (dg (Nat.gcd a b)) := by
 refine qG1 ?_
 unfold q9s
 have val : ∀ n : Nat, dval ((dg n).map Int.toNat) = n := by
  intro n
  have : (dg n).map Int.toNat = dig n := by
   simp only [dl, List.map_map]
   exact (List.map_congr_left (fun d _ => by simp)).trans (List.map_id _)
  rw [this, q24]
 refine ⟨fun x y => ∃ m n : Nat, x = dg m /\ y = dg n /\ (dig m).length <= 10000 /\ (dig n).length <= 10000 /\ Nat.gcd m n = Nat.gcd a b, fun _ y => dval (y.map Int.toNat), ⟨a, b, rfl, rfl, ha, hb, rfl⟩, ?_⟩
 rintro _ _ ⟨m, n, rfl, rfl, k1, k2, hg⟩
 rw [q2v]
 refine Br.d (fun h => ?_) (fun h => ?_)
 ·have n0 : n ≠ 0 := by intro e; subst e; rw [q4b] at h; simp at h
  have hlt := Nat.mod_lt m (show n > 0 by omega)
  refine Call.mk (qVp m n k1 k2 n0) ⟨⟨n, m % n, rfl, rfl, k2, ?_, by rw [← hg, Nat.gcd_comm n, ← Nat.gcd_rec, Nat.gcd_comm]⟩, by show dval ((dg (m % n)).map Int.toNat) < dval ((dg n).map Int.toNat); rw [val, val]; exact hlt⟩
  have := q4c (show m % n <= n by omega)
  omega
 ·have : n = 0 := qI2.1 (List.eq_nil_of_length_eq_zero (by omega))
  subst this
  rw [Nat.gcd_zero_right] at hg
  rw [← hg]
theorem qNu {a : GRat} (h : a.inI) : q2e a a.right := by
 have hN := h.1
 have hD := h.2
 have l1 := qWo (qUc hN)
 have l2 := qWo (qUc hD)
 refine qH8 ?_
 unfold qAz
 unfold GRat.right qM0
 have hg : (dig (Nat.gcd a.N.natAbs a.D.natAbs)).length <= 1000000 := by
  by_cases hz : a.D.natAbs = 0
  ·rw [hz, Nat.gcd_zero_right]; omega
  ·have := q4c (Nat.gcd_le_right a.N.natAbs (show 0 < a.D.natAbs by omega)); omega
 refine Br.d (fun c => ?_) (fun c => ?_)
 ·rw [decide_eq_true (show 1 <= a.D from c)]
  refine ⟨fun d => ?_, fun d => ?_⟩
  ·rw [bne_iff_ne] at d
   refine Call.mk (qLa hN) (Call.mk (qLa hD) (Call.mk (qMi _ _ (by omega) (by omega)) (Call.mk qNs (Call.mk (qRo _ 1 hg) ?_))))
   show _ = _
   rw [decide_eq_true d, qT8]; rfl
  ·have e : a.N = -9223372036854775808 := by simpa using d
   rw [decide_eq_false (show ¬ a.N ≠ -9223372036854775808 by omega)]; rfl
 ·rw [decide_eq_false (show ¬ 1 <= a.D from c)]; rfl
end Go.Sim.YtifjflhnfjhijaaGreatDoor

/- What is proved: functions of the program compute what plain statements tell. -/
namespace Go.Sim.YtifjflhnfjhijaaGreatDoor
open Go.RowKit Go.Proofs Go.Proofs.Tryz
set_option maxRecDepth 100000
def q8z (a1 : GRat) (Q : Bool -> Prop) : Prop :=
 Call (q2e a1) fun x5 =>
 Br x5 (
 Br (decide (a1.N >= (0 : Int))) (
 Nz a1.D <|
 Let (Int.tmod (1000000000000000000 : Int) a1.D) fun x7 =>
 Q (x7 == (0 : Int))) (
 Q false)) (
 Q false)
theorem qEz {a1 : GRat} {r : Bool} (h : q8z a1 (fun r' => r' = r)) : q80 a1 r := by
 unfold q8z at h
 refine intr (L := [(0, .dat (GRat.enc a1))]) Tryz.func165 Tryz.ntmps165 ?_
 refine sN (bx (v := .dat (.st _ _)) ?_)
 refine pB rfl (dn (AWp.seq (rN (pT rfl (kC h rfl ⟨.inl rfl, trivial⟩ rfl fun x5 h => ?_)))))
 refine pB rfl (sB 5 h (fun h => ?_) (fun h => ?_))
 ·refine pP rfl (pI rfl (pB rfl (pB rfl (pB rfl (sB 10 h (fun h => ?_) (fun h => ?_))))))
  ·refine pP rfl (pI rfl ?_)
   obtain ⟨hq, h⟩ := h
   obtain ⟨x7, ex7, h⟩ := h.get
   refine AOps.q rfl rfl rfl rfl rfl (qAe hq) ex7 ?_
   refine pB rfl (pB rfl (pB rfl (dn (AWp.ret ?_))))
   subst h
   exact ⟨_, rfl, rfl⟩
  refine fo 4 rfl (pB rfl (pB rfl (dn (AWp.ret ?_))))
  subst h
  exact ⟨_, rfl, rfl⟩
 refine fo 3 rfl (pB rfl (pB rfl (fo 4 rfl (pB rfl (pB rfl (dn (AWp.ret ?_)))))))
 subst h
 exact ⟨_, rfl, rfl⟩
def qCp (s1 : ByteArray) (Q : Bool -> Prop) : Prop :=
 Loop1 (0 : Int) (fun (i31 : Int) next32 =>
 Br (decide (i31 < ((s1.size : Nat) : Int))) (
 AtS s1 i31 fun x37 =>
 Br (x37 == (32 : Int)) (Q false) (
 Let (IntKind.i64.wrap (i31 + (1 : Int))) fun x39 =>
 next32 x39)) (
 Cat (ByteArray.mk #[32]) s1 fun x40 =>
 Cat x40 (ByteArray.mk #[32]) fun x41 =>
 Loop1 (0 : Int) (fun (i89 : Int) next90 =>
 Let (IntKind.i64.wrap (i89 + ((x41.size : Nat) : Int))) fun x91 =>
 Br (decide (x91 <= (105 : Int))) (
 qYw (fun j96 =>
 Br (!(s1.toList == (ByteArray.mk #[]).toList)) (
 Let (IntKind.i64.wrap (i89 + ((x41.size : Nat) : Int))) fun x99 =>
 SlS (ByteArray.mk #[32, 97, 116, 97, 110, 32, 99, 111, 110, 110, 101, 99, 116, 32, 99, 111, 110, 110, 101, 99, 116, 111, 114, 32, 99, 111, 115, 32, 100, 101, 114, 32, 100, 111, 32, 101, 110, 100, 32, 101, 120, 112, 32, 102, 108, 111, 119, 32, 102, 111, 114, 32, 105, 110, 32, 108, 111, 103, 32, 109, 111, 100, 101, 108, 32, 112, 97, 114, 97, 109, 32, 112, 97, 114, 116, 32, 115, 105, 110, 32, 115, 113, 114, 116, 32, 115, 116, 97, 114, 116, 32, 116, 105, 109, 101, 32, 117, 110, 105, 116, 32, 118, 97, 114, 32]) i89 x99 fun x100 =>
 Br (x100.toList == x41.toList) (Q true) (
 j96)) (
 j96)
 ) (
 Let (IntKind.i64.wrap (i89 + (1 : Int))) fun x101 =>
 next90 x101)) (
 Q false))))
theorem qJ9 {s1 : ByteArray} {r : Bool} (h : qCp s1 (fun r' => r' = r)) : q61 s1 r := by
 unfold qCp at h
 refine intr (L := [(0, .dat (.v (.string s1)))]) Tryz.func31 Tryz.ntmps31 ?_
 refine sN (pB rfl (dn (AWp.seq (AWp.seq (rN (pI rfl (dn (AWp.block ?_))))))))
 obtain ⟨I108, x109, hz110, hr111⟩ := h
 refine AWp.loop (I := fun p : Int => mkSt [(0, .dat (.v (.string s1))), (3, .dat (.v (.int .i64 p)))] []) (Inv := fun p => I108 p) (μ := fun p => x109 p) (x0 := (0 : Int)) hz110 sl (fun p hp => ?_)
 have h := hr111 p hp
 revert h; clear hp; generalize p = i31; intro h
 refine AWp.seq (AWp.seq (rN (pI rfl (pG rfl (pI rfl (pB rfl (dn (cB h (fun h => ?_) (fun h => ?_)))))))))
 ·refine AWp.skip (AWp.seq (AWp.block (AWp.seq (rN (pG rfl (pI rfl ?_))))))
  obtain ⟨hi36, x37, hx38, h⟩ := AtS.get h
  refine AOps.sidxE q01 rfl rfl rfl rfl rfl rfl rfl hi36 hx38 ?_
  refine pB rfl (dn (cB h (fun h => ?_) (fun h => ?_)))
  ·refine sN (pB rfl (dn (AWp.ret ?_)))
   subst h
   exact ⟨_, rfl, rfl⟩
  refine AWp.skip (rN (pI rfl ?_))
  obtain ⟨x39, ex39, h⟩ := h.get
  refine ai ex39 rfl (pI rfl (dn ?_))
  exact ⟨x39, h.1, h.2, sl⟩
 refine AWp.exit ?_
 refine sN (pG rfl (kc h rfl rfl rfl rfl fun x40 h => ?_))
 refine kc h rfl rfl rfl rfl fun x41 h => pG rfl ?_
 refine dn (AWp.seq (AWp.seq (rN (pI rfl (dn (AWp.block ?_))))))
 obtain ⟨I104, x105, hz106, hr107⟩ := h
 refine AWp.loop (I := fun p : Int => mkSt [(0, .dat (.v (.string s1))), (4, .dat (.v (.string x41))), (5, .dat (.v (.int .i64 p)))] []) (Inv := fun p => I104 p) (μ := fun p => x105 p) (x0 := (0 : Int)) hz106 sl (fun p hp => ?_)
 have h := hr107 p hp
 revert h; clear hp; generalize p = i89; intro h
 refine AWp.seq (AWp.seq (rN (pI rfl (pG rfl (pI rfl ?_)))))
 obtain ⟨x91, ex91, h⟩ := h.get
 refine ai ex91 rfl (pB rfl (dn (cB h (fun h => ?_) (fun h => ?_))))
 ·refine AWp.skip (AWp.seq ?_)
  obtain ⟨J102, h, hk103⟩ := h
  refine AWp.cutK (I := fun p : Unit => mkSt [(0, .dat (.v (.string s1))), (4, .dat (.v (.string x41))), (5, .dat (.v (.int .i64 i89)))] []) (Inv := fun p : Unit => J102) ?_ (fun p hp => ?_)
  ·refine AWp.block (AWp.seq (rN (pG rfl (pB rfl (pB rfl (sB 28 h (fun h => ?_) (fun h => ?_)))))))
   ·refine pI rfl (pI rfl (pG rfl (pI rfl ?_)))
    obtain ⟨x99, ex99, h⟩ := h.get
    refine ai ex99 rfl ?_
    obtain ⟨h1, h2, h3, x100, ex100, h⟩ := h.get
    refine AOps.sls q01 rfl rfl rfl rfl rfl rfl rfl rfl h1 h2 h3 ex100 ?_
    refine pG rfl (pB rfl (pB rfl (dn (cB h (fun h => ?_) (fun h => ?_)))))
    ·refine sN (pB rfl (dn (AWp.ret ?_)))
     subst h
     exact ⟨_, rfl, rfl⟩
    refine AWp.skip ?_
    exact ⟨(), h, sl⟩
   refine fo 8 rfl (pB rfl (dn ?_))
   refine AWp.condF rfl ?_
   refine AWp.skip ?_
   exact ⟨(), h, sl⟩
  replace h := hk103 hp
  refine rN (pI rfl ?_)
  obtain ⟨x101, ex101, h⟩ := h.get
  refine ai ex101 rfl (pI rfl (dn ?_))
  exact ⟨x101, h.1, h.2, sl⟩
 refine AWp.exit ?_
 refine sN (pB rfl (dn (AWp.ret ?_)))
 subst h
 exact ⟨_, rfl, rfl⟩
def q9t (c1 : Int) (Q : Bool -> Prop) : Prop :=
 Br (decide (c1 >= (97 : Int))) (
 Br (decide (c1 <= (122 : Int))) (Q true) (
 Br (decide (c1 >= (65 : Int))) (Q (decide (c1 <= (90 : Int)))) (
 Q false))) (
 Br (decide (c1 >= (65 : Int))) (Q (decide (c1 <= (90 : Int)))) (
 Q false))
theorem qG5 {c1 : Int} {r : Bool} (h : q9t c1 (fun r' => r' = r)) : q60 c1 r := by
 unfold q9t at h
 refine intr (L := [(0, .dat (.v (.int .u8 c1)))]) Tryz.func29 Tryz.ntmps29 ?_
 refine sN (pB rfl (dn (AWp.seq (rN (pI rfl (pB rfl (pB rfl (sB 5 h (fun h => ?_) (fun h => ?_)))))))))
 ·refine pI rfl (pB rfl (pB rfl (pB rfl (sB 9 h (fun h => ?_) (fun h => ?_)))))
  ·refine fo 6 rfl (pB rfl (pB rfl (dn (AWp.ret ?_))))
   subst h
   exact ⟨_, rfl, rfl⟩
  refine pI rfl (pB rfl (pB rfl (sB 12 h (fun h => ?_) (fun h => ?_))))
  ·refine pI rfl (pB rfl (pB rfl (pB rfl (pB rfl (dn (AWp.ret ?_))))))
   subst h
   exact ⟨_, rfl, rfl⟩
  refine ff rfl (ff rfl (pB rfl (pB rfl (pB rfl (dn (AWp.ret ?_))))))
  subst h
  exact ⟨_, rfl, rfl⟩
 refine ff rfl (ff rfl (pB rfl (pB rfl (pI rfl (pB rfl (pB rfl (sB 12 h (fun h => ?_) (fun h => ?_))))))))
 ·refine pI rfl (pB rfl (pB rfl (pB rfl (pB rfl (dn (AWp.ret ?_))))))
  subst h
  exact ⟨_, rfl, rfl⟩
 refine ff rfl (ff rfl (pB rfl (pB rfl (pB rfl (dn (AWp.ret ?_))))))
 subst h
 exact ⟨_, rfl, rfl⟩
def qB2 (c1 : Int) (Q : Bool -> Prop) : Prop :=
 Br (decide (c1 >= (48 : Int))) (Q (decide (c1 <= (57 : Int)))) (
 Q false)
theorem qHb {c1 : Int} {r : Bool} (h : qB2 c1 (fun r' => r' = r)) : q2c c1 r := by
 unfold qB2 at h
 refine intr (L := [(0, .dat (.v (.int .u8 c1)))]) Tryz.func30 Tryz.ntmps30 ?_
 refine sN (pB rfl (dn (AWp.seq (rN (pI rfl (pB rfl (pB rfl (sB 5 h (fun h => ?_) (fun h => ?_)))))))))
 ·refine pI rfl (pB rfl (pB rfl (pB rfl (dn (AWp.ret ?_)))))
  subst h
  exact ⟨_, rfl, rfl⟩
 refine ff rfl (ff rfl (pB rfl (pB rfl (dn (AWp.ret ?_)))))
 subst h
 exact ⟨_, rfl, rfl⟩
end Go.Sim.YtifjflhnfjhijaaGreatDoor

/- What is proved: which nodes may be, by themselves, as the reference tells. -/
namespace Go.Sim.YtifjflhnfjhijaaGreatDoor
open Go.RowKit Go.Proofs Go.Proofs.Tryz
end Go.Sim.YtifjflhnfjhijaaGreatDoor

/- What is proved: which nodes may be, by themselves, as the reference tells: all kinds. -/
namespace Go.Sim.YtifjflhnfjhijaaGreatDoor
open Go.RowKit Go.Proofs Go.Proofs.Tryz
theorem qLb (hr : ∀ a : GRat, a.ok -> q2e a a.right) {a : GRat} (ha : a.ok) (hd : a.right = true -> a.D ≠ 0) : q80 a (decB a) := by
 refine qEz ?_
 unfold q8z decB
 refine Call.mk (hr a ha) ⟨fun h => Br.d (fun h2 => ⟨hd h, Let.it ?_⟩) (fun h2 => ?_), fun h => ?_⟩
 ·show _ = _; rw [h, decide_eq_true (show (0 : Int) <= _ from h2)]; rfl
 ·show _ = _; rw [decide_eq_false (show ¬ (0 : Int) <= _ from h2)]; simp
 ·show _ = _; rw [h]; rfl
end Go.Sim.YtifjflhnfjhijaaGreatDoor
