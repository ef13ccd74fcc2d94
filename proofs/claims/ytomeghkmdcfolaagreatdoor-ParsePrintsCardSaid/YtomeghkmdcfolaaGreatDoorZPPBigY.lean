/- What is proved: numbers as lists of digits of 32 bits: what the reference's functions make of them (the order, the bits, shifts, differences, rests, the greatest common divisor). -/
import Derived.Test.YtomeghkmdcfolaaGreatDoorZPPWF4
import Derived.Test.YtomeghkmdcfolaaGreatDoorZPPRatY

namespace Go.Sim.YtomeghkmdcfolaaGreatDoor
open Go.RowKit Go.Proofs Go.Proofs.Tryz
def dl (l : List Nat) : List Int := l.map fun (d : Nat) => (d : Int)
abbrev dg (n : Nat) : List Int := dl (dig n)
theorem dl_len (l : List Nat) : (dl l).length = l.length := by simp [dl]
theorem dl_app (l m : List Nat) : dl (l ++ m) = dl l ++ dl m := by simp [dl]
theorem dl_at {l : List Nat} {i : Nat} {x : Int} (h : (dl l)[i]? = some x) : ∃ d : Nat, l[i]? = some d /\ x = (d : Int) := by
 simp only [dl, List.getElem?_map, Option.map_eq_some_iff] at h
 obtain ⟨d, h1, h2⟩ := h
 exact ⟨d, h1, h2.symm⟩
theorem At.dl {l : List Nat} {i : Nat} {K : Int -> Prop} (h : i < l.length) (hk : ∀ d : Nat, l[i]? = some d -> K (d : Int)) : At (dl l) (i : Int) K :=
 At.nat (by rw [dl_len]; exact h) fun x hx => by obtain ⟨d, h1, rfl⟩ := dl_at hx; exact hk d h1
theorem trim_ev (l0 : List Nat) (h0 : dOk l0) (hb : l0.length <= 10000000) : Ev_ref01_trim (dl l0) (dg (dval l0)) := by
  refine walk_ref01_trim ?_
  unfold W_ref01_trim
  refine ⟨fun z => ∃ l : List Nat, z = dl l /\ dOk l /\ l.length <= 10000000 /\ dval l = dval l0, fun z => z.length, ⟨l0, rfl, h0, hb, rfl⟩, ?_⟩
  rintro _ ⟨l, rfl, k1, k2, k3⟩
  rw [dl_len]
  refine Br.d (fun c => Let.as ((l.length - 1 : Nat) : Int) (by rw [wi (by omega) (by omega)]; omega) (At.dl (by omega) fun d hd => ?_)) (fun c => ?_)
  · have hsp := split_at hd
    have hdr : l.drop (l.length - 1 + 1) = [] := List.drop_eq_nil_of_le (by omega)
    rw [hdr] at hsp
    refine Br.e (fun e => ?_) (fun e => ?_)
    · have d0 : d = 0 := by omega
      subst d0
      have hdv : dval (l.take (l.length - 1)) = dval l := by conv => rhs; rw [hsp]
                                                             rw [dval_strip]
      refine Let.as ((l.length - 1 : Nat) : Int) (by rw [wi (by omega) (by omega)]; omega) ⟨by omega, by omega, by rw [dl_len]; omega, Let.as (dl (l.take (l.length - 1))) ?_ ⟨⟨l.take (l.length - 1), rfl, fun x hx => k1 x (List.mem_of_mem_take hx), by simp; omega, by rw [hdv, k3]⟩, ?_⟩⟩
      · simp [dl, List.map_take]
      · simp [dl]; omega
    · show dl l = dl (dig (dval l0))
      rw [← k3, dig_dval k1]
      intro m d' he
      have : l[l.length - 1]? = some d' := by rw [he]; simp
      rw [hd] at this
      have : d = d' := by simpa using this
      omega
  · have : l = [] := List.eq_nil_of_length_eq_zero (by omega)
    subst this
    have : dval l0 = 0 := by rw [← k3]; rfl
    rw [this, dg, dig_zero]
theorem of_ev (n : Nat) (h : n < 18446744073709551616) : Ev_ref01_Of (n : Int) (dg n) := by
 refine walk_ref01_Of ?_
 unfold W_ref01_Of
 refine Let.as _ (w32N n) (Let.as ((n / 4294967296 : Nat) : Int) (shrC n 32) (Let.as _ (w32N _) (Call.mk (x := dg n) ?_ rfl)))
 have := trim_ev [n % 4294967296, n / 4294967296 % 4294967296] (by intro d hd; simp at hd; omega) (by simp)
 have e : dval [n % 4294967296, n / 4294967296 % 4294967296] = n := by simp only [dval]; omega
 rw [e] at this
 exact this
theorem one_ev' : Ev_ref11_one (dg 1) := by
 refine walk_ref11_one ?_
 unfold W_ref11_one
 exact Call.mk (of_ev 1 (by decide)) rfl
theorem size_ev {n : Int} (h : Sim.inI n) : Ev_ref11_size n (dg n.natAbs) := by
 unfold Sim.inI at h
 refine walk_ref11_size ?_
 unfold W_ref11_size
 refine Br.d (fun a => Let.as (n + 18446744073709551616) (by rw [wuM]; omega) (Let.as ((n.natAbs : Nat) : Int) (by rw [wuM]; omega) (Call.mk (of_ev _ (by omega)) rfl))) (fun a => Let.as ((n.natAbs : Nat) : Int) (by rw [wuM]; omega) (Call.mk (of_ev _ (by omega)) rfl))
theorem Loop1.down {b : Int -> (Int -> Prop) -> Prop} (n : Nat) (P : Nat -> Prop) (h0 : P n) (st : ∀ (i : Nat) (k : Int -> Prop), i < n -> P (i + 1) -> (P i -> k ((i : Int) - 1)) -> b (i : Int) k) (he : ∀ k, P 0 -> b (-1) k) : Loop1 ((n : Int) - 1) b := by
 refine ⟨fun z => ∃ j : Nat, z = (j : Int) - 1 /\ j <= n /\ P j, fun z => (z + 1).toNat, ⟨n, rfl, Nat.le_refl _, h0⟩, ?_⟩
 rintro _ ⟨j, rfl, hj, hP⟩
 cases j with
 | zero => exact he _ hP
 | succ j =>
  have e : ((j + 1 : Nat) : Int) - 1 = (j : Int) := by omega
  rw [e]
  refine st j _ (by omega) hP fun h => ⟨⟨j, rfl, by omega, h⟩, ?_⟩
  show ((j : Int) - 1 + 1).toNat < ((j : Int) + 1).toNat
  omega
theorem cmp_ev (a b : Nat) (ha : (dig a).length <= 1000000) : Ev_ref01_Cmp (dg a) (dg b) (cmpS a b) := by
 refine walk_ref01_Cmp ?_
 unfold W_ref01_Cmp
 rw [dl_len, dl_len]
 by_cases hl : (dig a).length = (dig b).length
 ·refine Br.f (by rw [hl]; simp) (Let.as (((dig a).length : Int) - 1) (wi (by omega) (by omega)) ?_)
  refine Loop1.down (dig a).length (fun i => (dig a).drop i = (dig b).drop i) (by rw [List.drop_eq_nil_of_le (Nat.le_refl _), List.drop_eq_nil_of_le (by omega)]) (fun i k hi hP hk => ?_) (fun k hP => Br.dF (by omega) ?_)
  ·refine Br.dT (by omega) (At.dl hi fun d hd => At.dl (by omega) fun e he => Br.d (fun c => ?_) (fun c => At.dl hi fun d' hd' => At.dl (by omega) fun e' he' => Br.d (fun c' => ?_) (fun c' => Let.as _ (wi (by omega) (by omega)) (hk ?_))))
   ·have := dig_lt_at hl hd he hP (by omega)
    unfold cmpS; rw [if_pos this]
   ·rw [hd] at hd'; rw [he] at he'; cases hd'; cases he'
    have := dig_lt_at hl.symm he hd hP.symm (by omega)
    unfold cmpS; rw [if_neg (by omega), if_pos this]
   ·rw [hd] at hd'; rw [he] at he'; cases hd'; cases he'
    have hde : d = e := by omega
    subst hde
    obtain ⟨l1, g1⟩ := List.getElem?_eq_some_iff.1 hd
    obtain ⟨l2, g2⟩ := List.getElem?_eq_some_iff.1 he
    rw [List.drop_eq_getElem_cons l1, List.drop_eq_getElem_cons l2, g1, g2, hP]
  ·have : a = b := dig_inj (by simpa using hP)
   subst this
   unfold cmpS; rw [if_neg (by omega), if_neg (by omega)]
 ·refine Br.t (by simp; omega) (Br.d (fun c => ?_) (fun c => ?_))
  ·have := dig_len_lt (a := a) (b := b) (by omega)
   unfold cmpS; rw [if_pos this]
  ·have := dig_len_lt (a := b) (b := a) (by omega)
   unfold cmpS; rw [if_neg (by omega), if_pos this]
theorem bits_ev (a : Nat) (ha : (dig a).length <= 1000000) : Ev_ref01_Bits (dg a) ((blen a : Nat) : Int) := by
 refine walk_ref01_Bits ?_
 unfold W_ref01_Bits
 rw [dl_len]
 refine Br.e (fun c => ?_) (fun c => ?_)
 ·have : a = 0 := dig_nil.1 (List.eq_nil_of_length_eq_zero (by omega))
  subst this; rw [blen_zero]; rfl
 ·have a0 : a ≠ 0 := by intro e; subst e; rw [dig_zero] at c; simp at c
  obtain ⟨m, d, h1, h2, h3, h4, h5⟩ := dig_split a0
  have hlen : (dig a).length = m.length + 1 := by rw [h1]; simp
  refine Let.as (((dig a).length - 1 : Nat) : Int) (by rw [wi (by omega) (by omega)]; omega) (Let.as ((32 * m.length : Nat) : Int) (by rw [wi (by omega) (by omega)]; omega) (Let.as (m.length : Int) (by rw [wi (by omega) (by omega)]; omega) (At.dl (by omega) fun d' hd' => ?_)))
  rw [h1] at hd'
  have : d' = d := by simpa using hd'.symm
  subst this
  refine ⟨fun x y => ∃ e n : Nat, y = (e : Int) /\ x = (n : Int) /\ e < 4294967296 /\ n + blen e = blen a, fun _ y => y.toNat, ⟨d', 32 * m.length, rfl, rfl, h4, by omega⟩, ?_⟩
  rintro _ _ ⟨e, n, rfl, rfl, k1, k2⟩
  have hbl := blen_dig_len (n := a) (k := 1000000) ha
  refine Br.d (fun g => Let.as ((n + 1 : Nat) : Int) (by rw [wi (by omega) (by omega)]; omega) (Let.as ((e / 2 : Nat) : Int) (by rw [shrC]) ⟨⟨e / 2, n + 1, rfl, rfl, by omega, by rw [← k2, blen_pos (n := e) (by omega)]; omega⟩, by simp only [Int.toNat_natCast]; omega⟩)) (fun g => ?_)
  have : e = 0 := by omega
  subst this
  rw [blen_zero] at k2
  show (n : Int) = _
  omega
theorem getD_at {l : List Nat} {i d : Nat} (h : l[i]? = some d) : l.getD i 0 = d := by rw [List.getD_eq_getElem?_getD, h]; rfl
theorem less_ev (a b : Nat) (ha : (dig a).length <= 1000000) (hab : b <= a) : Ev_ref01_Less (dg a) (dg b) (dg (a - b)) := by
 refine walk_ref01_Less ?_
 unfold W_ref01_Less
 rw [dl_len, dl_len]
 refine ⟨fun x y z => ∃ (o : List Nat) (r i : Nat), x = dl o /\ y = (r : Int) /\ z = (i : Int) /\ dOk o /\ o.length = i /\ i <= (dig a).length /\ r <= 1 /\ dval ((dig a).take i) + 4294967296 ^ i * r = dval o + dval ((dig b).take i), fun _ _ z => (dig a).length - z.toNat, ⟨[], 0, 0, rfl, rfl, rfl, fun _ h => (by cases h), rfl, by omega, by omega, by simp [dval]⟩, ?_⟩
 rintro _ _ _ ⟨o, r, i, rfl, rfl, rfl, k1, k2, k3, k4, k5⟩
 refine Br.d (fun c => At.dl (by omega) fun d hd => ?_) (fun c => ?_)
 ·have hd0 := dOk_dig a d (List.mem_of_getElem? hd)
  refine Let.as (d : Int) (wi (by omega) (by omega)) (Let.as ((d : Int) - r) (wi (by omega) (by omega)) ?_)
  refine ⟨fun x => x = (d : Int) - r - ((dig b).getD i 0 : Nat), ?_, fun x hx => ?_⟩
  ·refine Br.d (fun c2 => At.dl (by omega) fun e he => ?_) (fun c2 => ?_)
   ·have he0 := dOk_dig b e (List.mem_of_getElem? he)
    exact Let.as (e : Int) (wi (by omega) (by omega)) (Let.as _ (wi (by omega) (by omega)) (by rw [getD_at he]))
   ·have : (dig b)[i]? = none := List.getElem?_eq_none (by omega)
    rw [List.getD_eq_getElem?_getD, this]; simp
  ·have gb := getD_dig b i
   have ga := getD_at hd
   subst hx
   obtain ⟨y, r1, hy, hr1, hyl, hst⟩ : ∃ y r1 : Nat, y < 4294967296 /\ r1 <= 1 /\ (y : Int) = (d : Int) - r - ((dig b).getD i 0 : Nat) + 4294967296 * r1 /\ y + r + (dig b).getD i 0 = (dig a).getD i 0 + 4294967296 * r1 := by
    by_cases hneg : (d : Int) - r - ((dig b).getD i 0 : Nat) < 0
    ·exact ⟨((d : Int) - r - ((dig b).getD i 0 : Nat) + 4294967296).toNat, 1, by omega, by omega, by omega, by omega⟩
    ·exact ⟨((d : Int) - r - ((dig b).getD i 0 : Nat)).toNat, 0, by omega, by omega, by omega, by omega⟩
   refine ⟨fun p q => p = (r1 : Int) /\ q = (y : Int), ?_, fun p q hpq => ?_⟩
   ·exact Br.d (fun c3 => Let.as _ (wi (by omega) (by omega)) ⟨by omega, by omega⟩) (fun c3 => ⟨by omega, by omega⟩)
   ·obtain ⟨hp, hq⟩ := hpq
    rw [hp, hq]
    refine Let.as (y : Int) (by rw [w32N]; omega) ⟨by simp only [List.length_cons, List.length_nil, dl_len]; unfold maxLen; omega, by simp only [List.length_cons, List.length_nil, dl_len]; omega, Let.as (dl (o ++ [y])) (by rw [dl_app]; rfl) (Let.as ((i + 1 : Nat) : Int) (by rw [wi (by omega) (by omega)]; omega) ⟨⟨o ++ [y], r1, i + 1, rfl, rfl, rfl, dOk_append.2 ⟨k1, fun x hx => by simp at hx; omega⟩, by simp; omega, by omega, hr1, less_step k2 k5 hst⟩, by simp only [Int.toNat_natCast]; omega⟩)⟩
 ·have hi : i = (dig a).length := by omega
  have := less_end hi hab k1 k2 k5
  rw [← this]
  exact Call.mk (trim_ev o k1 (by omega)) rfl
theorem left_ev (a n : Nat) (ha : (dig a).length <= 100000) (hn : n <= 3200000) : Ev_ref01_Left (dg a) (n : Int) (dg (a * 2 ^ n)) := by
 refine walk_ref01_Left ?_
 unfold W_ref01_Left
 rw [dl_len]
 refine Br.e (fun c => ?_) (fun c => ?_)
 ·have : a = 0 := dig_nil.1 (List.eq_nil_of_length_eq_zero (by omega))
  subst this; rw [Nat.zero_mul]
 ·have hs : n % 32 < 32 := Nat.mod_lt _ (by decide)
  refine Let.as ((n / 32 : Nat) : Int) (by rw [show Int.tdiv (n : Int) 32 = ((n / 32 : Nat) : Int) from rfl, wi (by omega) (by omega)]) ⟨by omega, by omega, by omega, Let.as (dl (List.replicate (n / 32) 0)) (by rw [Int.toNat_natCast]; simp [dl]) ?_⟩
  refine ⟨fun x y z => ∃ (o : List Nat) (r i : Nat), x = dl o /\ y = (r : Int) /\ z = (i : Int) /\ dOk o /\ o.length = n / 32 + i /\ i <= (dig a).length /\ r < 2 ^ (n % 32) /\ dval o + 4294967296 ^ (n / 32 + i) * r = 4294967296 ^ (n / 32) * (dval ((dig a).take i) * 2 ^ (n % 32)), fun _ _ z => (dig a).length - z.toNat,
   ⟨List.replicate (n / 32) 0, 0, 0, rfl, rfl, rfl, fun d hd => by (have := (List.mem_replicate.1 hd).2; omega), by simp, by omega, Nat.two_pow_pos _, by simp [dval, dval_replicate]⟩, ?_⟩
  rintro _ _ _ ⟨o, r, i, rfl, rfl, rfl, k1, k2, k3, k4, k5⟩
  have h32 : 2 ^ (n % 32) <= 2 ^ 31 := Nat.pow_le_pow_right (by omega) (by omega)
  simp only [Nat.reducePow] at h32
  refine Br.d (fun c2 => At.dl (by omega) fun d hd => ?_) (fun c2 => ?_)
  ·have hd0 := dOk_dig a d (List.mem_of_getElem? hd)
   have hcl := carry_lt k4 hd0
   have hbig : r + d * 2 ^ (n % 32) < 18446744073709551616 := by
    have : d * 2 ^ (n % 32) <= 4294967295 * 2147483648 := Nat.mul_le_mul (by omega) h32
    omega
   have hst := left_step k2 k5 (getD_at hd)
   refine Let.as (d : Int) (wu (by omega) (by omega)) (Let.as ((n % 32 : Nat) : Int) rfl (Let.as ((n % 32 : Nat) : Int) (wu (by omega) (by omega)) ⟨by omega, Let.as ((d * 2 ^ (n % 32) : Nat) : Int) (shl_ok hd0 hs) (Let.as ((r + d * 2 ^ (n % 32) : Nat) : Int) (or_ok k4 (Nat.mul_mod_left _ _) (by omega) (by omega)) ?_)⟩))
   generalize r + d * 2 ^ (n % 32) = t at *
   refine Let.as _ (w32N t) ⟨by simp only [List.length_cons, List.length_nil, dl_len]; unfold maxLen; omega, by simp only [List.length_cons, List.length_nil, dl_len]; omega, Let.as (dl (o ++ [t % 4294967296])) (by rw [dl_app]; rfl) (Let.as ((t / 4294967296 : Nat) : Int) (shrC t 32) (Let.as ((i + 1 : Nat) : Int) (by rw [wi (by omega) (by omega)]; omega) ⟨⟨o ++ [t % 4294967296], t / 4294967296, i + 1, rfl, rfl, rfl, dOk_append.2 ⟨k1, fun x hx => by simp at hx; omega⟩, by simp; omega, by omega, hcl, hst⟩, by simp only [Int.toNat_natCast]; omega⟩))⟩
  ·have hend := left_end (a := a) (by omega) k2 k5
   refine Let.as (r : Int) (by rw [w32N, Nat.mod_eq_of_lt (by omega)]) ⟨by simp only [List.length_cons, List.length_nil, dl_len]; unfold maxLen; omega, by simp only [List.length_cons, List.length_nil, dl_len]; omega, Let.as (dl (o ++ [r])) (by rw [dl_app]; rfl) ?_⟩
   rw [← hend]
   exact Call.mk (trim_ev (o ++ [r]) (dOk_append.2 ⟨k1, fun x hx => by simp at hx; omega⟩) (by simp; omega)) rfl
theorem rest_ev (a b : Nat) (ha : (dig a).length <= 10000) (hb : (dig b).length <= 10000) (hb0 : b ≠ 0) : Ev_ref11_rest (dg a) (dg b) (dg (a % b)) := by
 have la := blen_dig_len ha
 have lb := blen_dig_len hb
 refine walk_ref11_rest ?_
 unfold W_ref11_rest
 refine Call.mk (bits_ev a (by omega)) (Call.mk (bits_ev b (by omega)) (Let.as ((blen a : Int) - (blen b : Int)) (wi (by omega) (by omega)) ?_))
 refine ⟨fun x k => ∃ A : Nat, x = dg A /\ A % b = a % b /\ A <= a /\ A < b * 2 ^ (k + 1).toNat /\ k <= 320000, fun _ k => (k + 1).toNat, ⟨a, rfl, rfl, Nat.le_refl _, div_init hb0, by omega⟩, ?_⟩
 rintro _ k ⟨A, rfl, k1, k2, k3, k4⟩
 have lA : (dig A).length <= 10000 := by have := dig_len_le k2; omega
 refine Br.d (fun c => ?_) (fun c => ?_)
 ·obtain ⟨m, rfl⟩ := Int.eq_ofNat_of_zero_le c
  have hsh : (dig (b * 2 ^ m)).length <= 1000000 := by
   have h1 := dig_len_blen (b * 2 ^ m)
   have h2 := blen_mul_pow b m
   omega
  have e1 : ((m : Int) + 1).toNat = m + 1 := by omega
  rw [e1, Nat.pow_succ] at k3
  refine Call.mk (left_ev b m (by omega) (by omega)) (Call.mk (cmp_ev _ A hsh) ⟨fun x => ∃ A' : Nat, x = dg A' /\ A' % b = a % b /\ A' <= a /\ A' < b * 2 ^ m, ?_, ?_⟩)
  ·refine ⟨fun h => ?_, fun h => ?_⟩
   ·have hle := cmpS_le h
    refine Call.mk (less_ev A (b * 2 ^ m) (by omega) hle) ⟨_, rfl, by rw [div_sub_mod hle, k1], by omega, ?_⟩
    rw [← Nat.mul_assoc] at k3; omega
   ·exact ⟨A, rfl, k1, k2, cmpS_gt h⟩
  ·rintro _ ⟨A', rfl, q1, q2, q3⟩
   refine Let.as ((m : Int) - 1) (wi (by omega) (by omega)) ⟨⟨A', rfl, q1, q2, ?_, by omega⟩, ?_⟩
   ·rw [show ((m : Int) - 1 + 1).toNat = m by omega]; exact q3
   ·show ((m : Int) - 1 + 1).toNat < ((m : Int) + 1).toNat; omega
 ·have e1 : (k + 1).toNat = 0 := by omega
  rw [e1, Nat.pow_zero, Nat.mul_one] at k3
  rw [← k1, Nat.mod_eq_of_lt k3]
theorem common_ev (a b : Nat) (ha : (dig a).length <= 10000) (hb : (dig b).length <= 10000) : Ev_ref11_common (dg a) (dg b) (dg (Nat.gcd a b)) := by
 refine walk_ref11_common ?_
 unfold W_ref11_common
 have val : ∀ n : Nat, dval ((dg n).map Int.toNat) = n := by
  intro n
  have : (dg n).map Int.toNat = dig n := by
   simp only [dl, List.map_map]
   exact (List.map_congr_left (fun d _ => by simp)).trans (List.map_id _)
  rw [this, dval_dig]
 refine ⟨fun x y => ∃ m n : Nat, x = dg m /\ y = dg n /\ (dig m).length <= 10000 /\ (dig n).length <= 10000 /\ Nat.gcd m n = Nat.gcd a b, fun _ y => dval (y.map Int.toNat), ⟨a, b, rfl, rfl, ha, hb, rfl⟩, ?_⟩
 rintro _ _ ⟨m, n, rfl, rfl, k1, k2, hg⟩
 rw [dl_len]
 refine Br.d (fun h => ?_) (fun h => ?_)
 ·have n0 : n ≠ 0 := by intro e; subst e; rw [dig_zero] at h; simp at h
  have hlt := Nat.mod_lt m (show n > 0 by omega)
  refine Call.mk (rest_ev m n k1 k2 n0) ⟨⟨n, m % n, rfl, rfl, k2, ?_, by rw [← hg, Nat.gcd_comm n, ← Nat.gcd_rec, Nat.gcd_comm]⟩, by show dval ((dg (m % n)).map Int.toNat) < dval ((dg n).map Int.toNat); rw [val, val]; exact hlt⟩
  have := dig_len_le (show m % n <= n by omega)
  omega
 ·have : n = 0 := dig_nil.1 (List.eq_nil_of_length_eq_zero (by omega))
  subst this
  rw [Nat.gcd_zero_right] at hg
  rw [← hg]
theorem refright_ev {a : GRat} (h : a.inI) : Ev_ref11_Right a a.right := by
 have hN := h.1
 have hD := h.2
 have l1 := len64 (abs_lt hN)
 have l2 := len64 (abs_lt hD)
 refine walk_ref11_Right ?_
 unfold W_ref11_Right
 unfold GRat.right rightS
 have hg : (dig (Nat.gcd a.N.natAbs a.D.natAbs)).length <= 1000000 := by
  by_cases hz : a.D.natAbs = 0
  ·rw [hz, Nat.gcd_zero_right]; omega
  ·have := dig_len_le (Nat.gcd_le_right a.N.natAbs (show 0 < a.D.natAbs by omega)); omega
 refine Br.d (fun c => ?_) (fun c => ?_)
 ·rw [decide_eq_true (show 1 <= a.D from c)]
  refine ⟨fun d => ?_, fun d => ?_⟩
  ·rw [bne_iff_ne] at d
   refine Call.mk (size_ev hN) (Call.mk (size_ev hD) (Call.mk (common_ev _ _ (by omega) (by omega)) (Call.mk one_ev' (Call.mk (cmp_ev _ 1 hg) ?_))))
   show _ = _
   rw [decide_eq_true d, cmpS_one]; rfl
  ·have e : a.N = -9223372036854775808 := by simpa using d
   rw [decide_eq_false (show ¬ a.N ≠ -9223372036854775808 by omega)]; rfl
 ·rw [decide_eq_false (show ¬ 1 <= a.D from c)]; rfl
end Go.Sim.YtomeghkmdcfolaaGreatDoor
