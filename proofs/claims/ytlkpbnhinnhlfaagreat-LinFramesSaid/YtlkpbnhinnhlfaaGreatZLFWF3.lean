/- What is proved: functions of the program compute what plain statements tell. -/
import Derived.Test.YtlkpbnhinnhlfaaGreatZLFWE
import Derived.Test.YtlkpbnhinnhlfaaGreatZLFExtF
import Derived.Test.YtlkpbnhinnhlfaaGreatZLFBig
import Derived.Test.YtlkpbnhinnhlfaaGreatZLFPureK
import Derived.Test.YtlkpbnhinnhlfaaGreatZLFWF4

namespace Go.Sim.YtlkpbnhinnhlfaaGreat
open Go.RowKit Go.Proofs Go.Proofs.Tryz
set_option maxRecDepth 100000
def W_math_bits_Mul64 (x1 : Int) (y2 : Int) (Q : Int × Int → Prop) : Prop :=
 Let (bits .and .u64 x1 (4294967295 : Int)) fun x3 =>
 Let (Int.fdiv x1 (2 ^ 32)) fun x4 =>
 Let (bits .and .u64 y2 (4294967295 : Int)) fun x5 =>
 Let (Int.fdiv y2 (2 ^ 32)) fun x6 =>
 Let (IntKind.u64.wrap (x3 * x5)) fun x7 =>
 Let (IntKind.u64.wrap (x4 * x5)) fun x8 =>
 Let (Int.fdiv x7 (2 ^ 32)) fun x9 =>
 Let (IntKind.u64.wrap (x8 + x9)) fun x10 =>
 Let (bits .and .u64 x10 (4294967295 : Int)) fun x11 =>
 Let (Int.fdiv x10 (2 ^ 32)) fun x12 =>
 Let (IntKind.u64.wrap (x3 * x6)) fun x13 =>
 Let (IntKind.u64.wrap (x11 + x13)) fun x14 =>
 Let (IntKind.u64.wrap (x4 * x6)) fun x15 =>
 Let (IntKind.u64.wrap (x15 + x12)) fun x16 =>
 Let (Int.fdiv x14 (2 ^ 32)) fun x17 =>
 Let (IntKind.u64.wrap (x16 + x17)) fun x18 =>
 Let (IntKind.u64.wrap (x1 * y2)) fun x19 =>
 Q (x18, x19)
theorem walk_math_bits_Mul64 {x1 : Int} {y2 : Int} {r : Int × Int} (h : W_math_bits_Mul64 x1 y2 (fun r' => r' = r)) : Ev_math_bits_Mul64 x1 y2 r := by
  unfold W_math_bits_Mul64 at h
  refine intr (L := [(0, .dat (.v (.int .u64 x1))), (1, .dat (.v (.int .u64 y2)))]) Tryz.func86 Tryz.ntmps86 ?_
  refine sN (pI rfl (pI rfl (dn (AWp.seq (rN (pI rfl ?_))))))
  obtain ⟨x3, ex3, h⟩ := h.get
  refine ai ex3 rfl (pI rfl (dn (AWp.seq (rN (pI rfl ?_)))))
  obtain ⟨x4, ex4, h⟩ := h.get
  refine AOps.q rfl rfl rfl rfl rfl (rbin_shr (by decide)) ex4 ?_
  refine pI rfl (dn (AWp.seq (rN (pI rfl ?_))))
  obtain ⟨x5, ex5, h⟩ := h.get
  refine ai ex5 rfl (pI rfl (dn (AWp.seq (rN (pI rfl ?_)))))
  obtain ⟨x6, ex6, h⟩ := h.get
  refine AOps.q rfl rfl rfl rfl rfl (rbin_shr (by decide)) ex6 ?_
  refine pI rfl (dn (AWp.seq (rN (pI rfl (pI rfl ?_)))))
  obtain ⟨x7, ex7, h⟩ := h.get
  refine ai ex7 rfl (pI rfl (dn (AWp.seq (rN (pI rfl (pI rfl ?_))))))
  obtain ⟨x8, ex8, h⟩ := h.get
  refine ai ex8 rfl (pI rfl ?_)
  obtain ⟨x9, ex9, h⟩ := h.get
  refine AOps.q rfl rfl rfl rfl rfl (rbin_shr (by decide)) ex9 ?_
  obtain ⟨x10, ex10, h⟩ := h.get
  refine ai ex10 rfl (pI rfl (dn (AWp.seq (rN (pI rfl ?_)))))
  obtain ⟨x11, ex11, h⟩ := h.get
  refine ai ex11 rfl (pI rfl (dn (AWp.seq (rN (pI rfl ?_)))))
  obtain ⟨x12, ex12, h⟩ := h.get
  refine AOps.q rfl rfl rfl rfl rfl (rbin_shr (by decide)) ex12 ?_
  refine pI rfl (dn (AWp.seq (rN (pI rfl (pI rfl (pI rfl ?_))))))
  obtain ⟨x13, ex13, h⟩ := h.get
  refine ai ex13 rfl ?_
  obtain ⟨x14, ex14, h⟩ := h.get
  refine ai ex14 rfl (pI rfl (dn (AWp.seq (rN (pI rfl (pI rfl ?_))))))
  obtain ⟨x15, ex15, h⟩ := h.get
  refine ai ex15 rfl (pI rfl ?_)
  obtain ⟨x16, ex16, h⟩ := h.get
  refine ai ex16 rfl (pI rfl ?_)
  obtain ⟨x17, ex17, h⟩ := h.get
  refine AOps.q rfl rfl rfl rfl rfl (rbin_shr (by decide)) ex17 ?_
  obtain ⟨x18, ex18, h⟩ := h.get
  refine ai ex18 rfl (pI rfl (dn (AWp.seq (rN (pI rfl (pI rfl ?_))))))
  obtain ⟨x19, ex19, h⟩ := h.get
  refine ai ex19 rfl (pI rfl (dn (AWp.ret ?_)))
  subst h
  exact ⟨_, rfl, rfl⟩
end Go.Sim.YtlkpbnhinnhlfaaGreat

/- What is proved: what the functions of numbers compute (the program's: right, size, gcd, made, products, quotients), in words of the printed statements. -/
namespace Go.Sim.YtlkpbnhinnhlfaaGreat
open Go.RowKit Go.Proofs Go.Proofs.Tryz
theorem shr32' (a : Nat) : Int.fdiv (a : Int) (2 ^ 32) = ((a / 4294967296 : Nat) : Int) := by rw [shrC]
theorem mul64_ev (a b : Nat) (ha : a < 18446744073709551616) (hb : b < 18446744073709551616) : Ev_math_bits_Mul64 (a : Int) (b : Int) (((a * b / 18446744073709551616 : Nat) : Int), ((a * b % 18446744073709551616 : Nat) : Int)) := by
  obtain ⟨x0, hx0⟩ : ∃ x0, x0 = a % 4294967296 := ⟨_, rfl⟩
  obtain ⟨x1, hx1⟩ : ∃ x1, x1 = a / 4294967296 := ⟨_, rfl⟩
  obtain ⟨y0, hy0⟩ : ∃ y0, y0 = b % 4294967296 := ⟨_, rfl⟩
  obtain ⟨y1, hy1⟩ : ∃ y1, y1 = b / 4294967296 := ⟨_, rfl⟩
  have b00 : x0 * y0 ≤ 4294967295 * 4294967295 := Nat.mul_le_mul (by omega) (by omega)
  have b10 : x1 * y0 ≤ 4294967295 * 4294967295 := Nat.mul_le_mul (by omega) (by omega)
  have b01 : x0 * y1 ≤ 4294967295 * 4294967295 := Nat.mul_le_mul (by omega) (by omega)
  have b11 : x1 * y1 ≤ 4294967295 * 4294967295 := Nat.mul_le_mul (by omega) (by omega)
  obtain ⟨w0, hw0⟩ : ∃ w0, w0 = x0 * y0 := ⟨_, rfl⟩
  obtain ⟨t, ht⟩ : ∃ t, t = x1 * y0 + w0 / 4294967296 := ⟨_, rfl⟩
  obtain ⟨w1, hw1⟩ : ∃ w1, w1 = t % 4294967296 + x0 * y1 := ⟨_, rfl⟩
  have hres := mul64_ok (a := a) (b := b) (x0 := x0) (x1 := x1) (y0 := y0) (y1 := y1) (by omega) (by omega) hw0 ht hw1
  refine walk_math_bits_Mul64 ?_
  unfold W_math_bits_Mul64
  refine Let.as (x0 : Int) (by rw [and32 ha, hx0]) (Let.as (x1 : Int) (by rw [shr32', hx1]) (Let.as (y0 : Int) (by rw [and32 hb, hy0]) (Let.as (y1 : Int) (by rw [shr32', hy1]) ?_)))
  refine Let.as (w0 : Int) (by rw [← Int.natCast_mul, wu (by omega) (by omega), hw0]) (Let.as ((x1 * y0 : Nat) : Int) (by rw [← Int.natCast_mul, wu (by omega) (by omega)]) (Let.as _ (shr32' w0) (Let.as (t : Int) (by rw [wu (by omega) (by omega)]; omega) ?_)))
  refine Let.as ((t % 4294967296 : Nat) : Int) (and32 (by omega)) (Let.as _ (shr32' t) (Let.as ((x0 * y1 : Nat) : Int) (by rw [← Int.natCast_mul, wu (by omega) (by omega)]) (Let.as (w1 : Int) (by rw [wu (by omega) (by omega)]; omega) ?_)))
  refine Let.as ((x1 * y1 : Nat) : Int) (by rw [← Int.natCast_mul, wu (by omega) (by omega)]) (Let.as ((x1 * y1 + t / 4294967296 : Nat) : Int) (by rw [wu (by omega) (by omega)]; omega) (Let.as _ (shr32' w1) (Let.as ((a * b / 18446744073709551616 : Nat) : Int) (by rw [← hres, wu (by omega) (by omega)]; omega) ?_)))
  exact Let.as _ (by rw [← Int.natCast_mul, wuN]) rfl
theorem wuM (n : Int) : IntKind.u64.wrap n = n % 18446744073709551616 := by simp only [IntKind.wrap, IntKind.bits, IntKind.signed, Bool.false_and, Bool.false_eq_true, if_false]; omega
end Go.Sim.YtlkpbnhinnhlfaaGreat
-- seatfit

/- What is proved: numbers as lists of digits of 32 bits: what the reference's functions make of them (the order, the bits, shifts, differences, rests, the greatest common divisor). -/
namespace Go.Sim.YtlkpbnhinnhlfaaGreat
open Go.RowKit Go.Proofs Go.Proofs.Tryz
/-- Digits as the printed statements have them. -/
def dl (l : List Nat) : List Int := l.map fun (d : Nat) => (d : Int)
abbrev dg (n : Nat) : List Int := dl (dig n)
theorem dl_len (l : List Nat) : (dl l).length = l.length := by simp [dl]
theorem dl_app (l m : List Nat) : dl (l ++ m) = dl l ++ dl m := by simp [dl]
theorem dl_at {l : List Nat} {i : Nat} {x : Int} (h : (dl l)[i]? = some x) : ∃ d : Nat, l[i]? = some d ∧ x = (d : Int) := by
  simp only [dl, List.getElem?_map, Option.map_eq_some_iff] at h
  obtain ⟨d, h1, h2⟩ := h
  exact ⟨d, h1, h2.symm⟩
/-- A digit, read. -/
theorem At.dl {l : List Nat} {i : Nat} {K : Int → Prop} (h : i < l.length) (hk : ∀ d : Nat, l[i]? = some d → K (d : Int)) : At (dl l) (i : Int) K :=
  At.nat (by rw [dl_len]; exact h) fun x hx => by obtain ⟨d, h1, rfl⟩ := dl_at hx; exact hk d h1
theorem trim_ev (l0 : List Nat) (h0 : dOk l0) (hb : l0.length ≤ 10000000) : Ev_ref01_trim (dl l0) (dg (dval l0)) := by
  refine walk_ref01_trim ?_
  unfold W_ref01_trim
  refine ⟨fun z => ∃ l : List Nat, z = dl l ∧ dOk l ∧ l.length ≤ 10000000 ∧ dval l = dval l0, fun z => z.length, ⟨l0, rfl, h0, hb, rfl⟩, ?_⟩
  rintro _ ⟨l, rfl, k1, k2, k3⟩
  rw [dl_len]
  refine Br.d (fun c => Let.as ((l.length - 1 : Nat) : Int) (by rw [wi (by omega) (by omega)]; omega) (At.dl (by omega) fun d hd => ?_)) (fun c => ?_)
  · have hsp := split_at hd
    have hdr : l.drop (l.length - 1 + 1) = [] := List.drop_eq_nil_of_le (by omega)
    rw [hdr] at hsp
    refine Br.e (fun e => ?_) (fun e => ?_)
    · have d0 : d = 0 := by omega
      subst d0
      have hdv : dval (l.take (l.length - 1)) = dval l := by conv => rhs; rw [hsp]
                                                             rw [dval_strip]
      refine Let.as ((l.length - 1 : Nat) : Int) (by rw [wi (by omega) (by omega)]; omega) ⟨by omega, by omega, by rw [dl_len]; omega, Let.as (dl (l.take (l.length - 1))) ?_ ⟨⟨l.take (l.length - 1), rfl, fun x hx => k1 x (List.mem_of_mem_take hx), by simp; omega, by rw [hdv, k3]⟩, ?_⟩⟩
      · simp [dl, List.map_take]
      · simp [dl]; omega
    · show dl l = dl (dig (dval l0))
      rw [← k3, dig_dval k1]
      intro m d' he
      have : l[l.length - 1]? = some d' := by rw [he]; simp
      rw [hd] at this
      have : d = d' := by simpa using this
      omega
  · have : l = [] := List.eq_nil_of_length_eq_zero (by omega)
    subst this
    have : dval l0 = 0 := by rw [← k3]; rfl
    rw [this, dg, dig_zero]
theorem of_ev (n : Nat) (h : n < 18446744073709551616) : Ev_ref01_Of (n : Int) (dg n) := by
  refine walk_ref01_Of ?_
  unfold W_ref01_Of
  refine Let.as _ (w32N n) (Let.as ((n / 4294967296 : Nat) : Int) (shrC n 32) (Let.as _ (w32N _) (Call.mk (x := dg n) ?_ rfl)))
  have := trim_ev [n % 4294967296, n / 4294967296 % 4294967296] (by intro d hd; simp at hd; omega) (by simp)
  have e : dval [n % 4294967296, n / 4294967296 % 4294967296] = n := by simp only [dval]; omega
  rw [e] at this
  exact this
/-- A loop that counts down to -1. -/
theorem Loop1.down {b : Int → (Int → Prop) → Prop} (n : Nat) (P : Nat → Prop) (h0 : P n) (st : ∀ (i : Nat) (k : Int → Prop), i < n → P (i + 1) → (P i → k ((i : Int) - 1)) → b (i : Int) k) (he : ∀ k, P 0 → b (-1) k) : Loop1 ((n : Int) - 1) b := by
  refine ⟨fun z => ∃ j : Nat, z = (j : Int) - 1 ∧ j ≤ n ∧ P j, fun z => (z + 1).toNat, ⟨n, rfl, Nat.le_refl _, h0⟩, ?_⟩
  rintro _ ⟨j, rfl, hj, hP⟩
  cases j with
  | zero => exact he _ hP
  | succ j =>
    have e : ((j + 1 : Nat) : Int) - 1 = (j : Int) := by omega
    rw [e]
    refine st j _ (by omega) hP fun h => ⟨⟨j, rfl, by omega, h⟩, ?_⟩
    show ((j : Int) - 1 + 1).toNat < ((j : Int) + 1).toNat
    omega
theorem cmp_ev (a b : Nat) (ha : (dig a).length ≤ 1000000) : Ev_ref01_Cmp (dg a) (dg b) (cmpS a b) := by
  refine walk_ref01_Cmp ?_
  unfold W_ref01_Cmp
  rw [dl_len, dl_len]
  by_cases hl : (dig a).length = (dig b).length
  · refine Br.f (by rw [hl]; simp) (Let.as (((dig a).length : Int) - 1) (wi (by omega) (by omega)) ?_)
    refine Loop1.down (dig a).length (fun i => (dig a).drop i = (dig b).drop i) (by rw [List.drop_eq_nil_of_le (Nat.le_refl _), List.drop_eq_nil_of_le (by omega)]) (fun i k hi hP hk => ?_) (fun k hP => Br.dF (by omega) ?_)
    · refine Br.dT (by omega) (At.dl hi fun d hd => At.dl (by omega) fun e he => Br.d (fun c => ?_) (fun c => At.dl hi fun d' hd' => At.dl (by omega) fun e' he' => Br.d (fun c' => ?_) (fun c' => Let.as _ (wi (by omega) (by omega)) (hk ?_))))
      · have := dig_lt_at hl hd he hP (by omega)
        unfold cmpS; rw [if_pos this]
      · rw [hd] at hd'; rw [he] at he'; cases hd'; cases he'
        have := dig_lt_at hl.symm he hd hP.symm (by omega)
        unfold cmpS; rw [if_neg (by omega), if_pos this]
      · rw [hd] at hd'; rw [he] at he'; cases hd'; cases he'
        have hde : d = e := by omega
        subst hde
        obtain ⟨l1, g1⟩ := List.getElem?_eq_some_iff.1 hd
        obtain ⟨l2, g2⟩ := List.getElem?_eq_some_iff.1 he
        rw [List.drop_eq_getElem_cons l1, List.drop_eq_getElem_cons l2, g1, g2, hP]
    · have : a = b := dig_inj (by simpa using hP)
      subst this
      unfold cmpS; rw [if_neg (by omega), if_neg (by omega)]
  · refine Br.t (by simp; omega) (Br.d (fun c => ?_) (fun c => ?_))
    · have := dig_len_lt (a := a) (b := b) (by omega)
      unfold cmpS; rw [if_pos this]
    · have := dig_len_lt (a := b) (b := a) (by omega)
      unfold cmpS; rw [if_neg (by omega), if_pos this]
theorem bits_ev (a : Nat) (ha : (dig a).length ≤ 1000000) : Ev_ref01_Bits (dg a) ((blen a : Nat) : Int) := by
  refine walk_ref01_Bits ?_
  unfold W_ref01_Bits
  rw [dl_len]
  refine Br.e (fun c => ?_) (fun c => ?_)
  · have : a = 0 := dig_nil.1 (List.eq_nil_of_length_eq_zero (by omega))
    subst this; rw [blen_zero]; rfl
  · have a0 : a ≠ 0 := by intro e; subst e; rw [dig_zero] at c; simp at c
    obtain ⟨m, d, h1, h2, h3, h4, h5⟩ := dig_split a0
    have hlen : (dig a).length = m.length + 1 := by rw [h1]; simp
    refine Let.as (((dig a).length - 1 : Nat) : Int) (by rw [wi (by omega) (by omega)]; omega) (Let.as ((32 * m.length : Nat) : Int) (by rw [wi (by omega) (by omega)]; omega) (Let.as (m.length : Int) (by rw [wi (by omega) (by omega)]; omega) (At.dl (by omega) fun d' hd' => ?_)))
    rw [h1] at hd'
    have : d' = d := by simpa using hd'.symm
    subst this
    refine ⟨fun x y => ∃ e n : Nat, y = (e : Int) ∧ x = (n : Int) ∧ e < 4294967296 ∧ n + blen e = blen a, fun _ y => y.toNat, ⟨d', 32 * m.length, rfl, rfl, h4, by omega⟩, ?_⟩
    rintro _ _ ⟨e, n, rfl, rfl, k1, k2⟩
    have hbl := blen_dig_len (n := a) (k := 1000000) ha
    refine Br.d (fun g => Let.as ((n + 1 : Nat) : Int) (by rw [wi (by omega) (by omega)]; omega) (Let.as ((e / 2 : Nat) : Int) (by rw [shrC]) ⟨⟨e / 2, n + 1, rfl, rfl, by omega, by rw [← k2, blen_pos (n := e) (by omega)]; omega⟩, by simp only [Int.toNat_natCast]; omega⟩)) (fun g => ?_)
    have : e = 0 := by omega
    subst this
    rw [blen_zero] at k2
    show (n : Int) = _
    omega
theorem getD_at {l : List Nat} {i d : Nat} (h : l[i]? = some d) : l.getD i 0 = d := by rw [List.getD_eq_getElem?_getD, h]; rfl
theorem less_ev (a b : Nat) (ha : (dig a).length ≤ 1000000) (hab : b ≤ a) : Ev_ref01_Less (dg a) (dg b) (dg (a - b)) := by
  refine walk_ref01_Less ?_
  unfold W_ref01_Less
  rw [dl_len, dl_len]
  refine ⟨fun x y z => ∃ (o : List Nat) (r i : Nat), x = dl o ∧ y = (r : Int) ∧ z = (i : Int) ∧ dOk o ∧ o.length = i ∧ i ≤ (dig a).length ∧ r ≤ 1 ∧ dval ((dig a).take i) + 4294967296 ^ i * r = dval o + dval ((dig b).take i), fun _ _ z => (dig a).length - z.toNat, ⟨[], 0, 0, rfl, rfl, rfl, fun _ h => (by cases h), rfl, by omega, by omega, by simp [dval]⟩, ?_⟩
  rintro _ _ _ ⟨o, r, i, rfl, rfl, rfl, k1, k2, k3, k4, k5⟩
  refine Br.d (fun c => At.dl (by omega) fun d hd => ?_) (fun c => ?_)
  · have hd0 := dOk_dig a d (List.mem_of_getElem? hd)
    refine Let.as (d : Int) (wi (by omega) (by omega)) (Let.as ((d : Int) - r) (wi (by omega) (by omega)) ?_)
    refine ⟨fun x => x = (d : Int) - r - ((dig b).getD i 0 : Nat), ?_, fun x hx => ?_⟩
    · refine Br.d (fun c2 => At.dl (by omega) fun e he => ?_) (fun c2 => ?_)
      · have he0 := dOk_dig b e (List.mem_of_getElem? he)
        exact Let.as (e : Int) (wi (by omega) (by omega)) (Let.as _ (wi (by omega) (by omega)) (by rw [getD_at he]))
      · have : (dig b)[i]? = none := List.getElem?_eq_none (by omega)
        rw [List.getD_eq_getElem?_getD, this]; simp
    · have gb := getD_dig b i
      have ga := getD_at hd
      subst hx
      obtain ⟨y, r1, hy, hr1, hyl, hst⟩ : ∃ y r1 : Nat, y < 4294967296 ∧ r1 ≤ 1 ∧ (y : Int) = (d : Int) - r - ((dig b).getD i 0 : Nat) + 4294967296 * r1 ∧ y + r + (dig b).getD i 0 = (dig a).getD i 0 + 4294967296 * r1 := by
        by_cases hneg : (d : Int) - r - ((dig b).getD i 0 : Nat) < 0
        · exact ⟨((d : Int) - r - ((dig b).getD i 0 : Nat) + 4294967296).toNat, 1, by omega, by omega, by omega, by omega⟩
        · exact ⟨((d : Int) - r - ((dig b).getD i 0 : Nat)).toNat, 0, by omega, by omega, by omega, by omega⟩
      refine ⟨fun p q => p = (r1 : Int) ∧ q = (y : Int), ?_, fun p q hpq => ?_⟩
      · exact Br.d (fun c3 => Let.as _ (wi (by omega) (by omega)) ⟨by omega, by omega⟩) (fun c3 => ⟨by omega, by omega⟩)
      · obtain ⟨hp, hq⟩ := hpq
        rw [hp, hq]
        refine Let.as (y : Int) (by rw [w32N]; omega) ⟨by simp only [List.length_cons, List.length_nil, dl_len]; unfold maxLen; omega, by simp only [List.length_cons, List.length_nil, dl_len]; omega, Let.as (dl (o ++ [y])) (by rw [dl_app]; rfl) (Let.as ((i + 1 : Nat) : Int) (by rw [wi (by omega) (by omega)]; omega) ⟨⟨o ++ [y], r1, i + 1, rfl, rfl, rfl, dOk_append.2 ⟨k1, fun x hx => by simp at hx; omega⟩, by simp; omega, by omega, hr1, less_step k2 k5 hst⟩, by simp only [Int.toNat_natCast]; omega⟩)⟩
  · have hi : i = (dig a).length := by omega
    have := less_end hi hab k1 k2 k5
    rw [← this]
    exact Call.mk (trim_ev o k1 (by omega)) rfl
theorem left_ev (a n : Nat) (ha : (dig a).length ≤ 100000) (hn : n ≤ 3200000) : Ev_ref01_Left (dg a) (n : Int) (dg (a * 2 ^ n)) := by
  refine walk_ref01_Left ?_
  unfold W_ref01_Left
  rw [dl_len]
  refine Br.e (fun c => ?_) (fun c => ?_)
  · have : a = 0 := dig_nil.1 (List.eq_nil_of_length_eq_zero (by omega))
    subst this; rw [Nat.zero_mul]
  · have hs : n % 32 < 32 := Nat.mod_lt _ (by decide)
    refine Let.as ((n / 32 : Nat) : Int) (by rw [show Int.tdiv (n : Int) 32 = ((n / 32 : Nat) : Int) from rfl, wi (by omega) (by omega)]) ⟨by omega, by omega, by omega, Let.as (dl (List.replicate (n / 32) 0)) (by rw [Int.toNat_natCast]; simp [dl]) ?_⟩
    refine ⟨fun x y z => ∃ (o : List Nat) (r i : Nat), x = dl o ∧ y = (r : Int) ∧ z = (i : Int) ∧ dOk o ∧ o.length = n / 32 + i ∧ i ≤ (dig a).length ∧ r < 2 ^ (n % 32) ∧ dval o + 4294967296 ^ (n / 32 + i) * r = 4294967296 ^ (n / 32) * (dval ((dig a).take i) * 2 ^ (n % 32)), fun _ _ z => (dig a).length - z.toNat,
      ⟨List.replicate (n / 32) 0, 0, 0, rfl, rfl, rfl, fun d hd => by (have := (List.mem_replicate.1 hd).2; omega), by simp, by omega, Nat.two_pow_pos _, by simp [dval, dval_replicate]⟩, ?_⟩
    rintro _ _ _ ⟨o, r, i, rfl, rfl, rfl, k1, k2, k3, k4, k5⟩
    have h32 : 2 ^ (n % 32) ≤ 2 ^ 31 := Nat.pow_le_pow_right (by omega) (by omega)
    simp only [Nat.reducePow] at h32
    refine Br.d (fun c2 => At.dl (by omega) fun d hd => ?_) (fun c2 => ?_)
    · have hd0 := dOk_dig a d (List.mem_of_getElem? hd)
      have hcl := carry_lt k4 hd0
      have hbig : r + d * 2 ^ (n % 32) < 18446744073709551616 := by
        have : d * 2 ^ (n % 32) ≤ 4294967295 * 2147483648 := Nat.mul_le_mul (by omega) h32
        omega
      have hst := left_step k2 k5 (getD_at hd)
      refine Let.as (d : Int) (wu (by omega) (by omega)) (Let.as ((n % 32 : Nat) : Int) rfl (Let.as ((n % 32 : Nat) : Int) (wu (by omega) (by omega)) ⟨by omega, Let.as ((d * 2 ^ (n % 32) : Nat) : Int) (shl_ok hd0 hs) (Let.as ((r + d * 2 ^ (n % 32) : Nat) : Int) (or_ok k4 (Nat.mul_mod_left _ _) (by omega) (by omega)) ?_)⟩))
      generalize r + d * 2 ^ (n % 32) = t at *
      refine Let.as _ (w32N t) ⟨by simp only [List.length_cons, List.length_nil, dl_len]; unfold maxLen; omega, by simp only [List.length_cons, List.length_nil, dl_len]; omega, Let.as (dl (o ++ [t % 4294967296])) (by rw [dl_app]; rfl) (Let.as ((t / 4294967296 : Nat) : Int) (shrC t 32) (Let.as ((i + 1 : Nat) : Int) (by rw [wi (by omega) (by omega)]; omega) ⟨⟨o ++ [t % 4294967296], t / 4294967296, i + 1, rfl, rfl, rfl, dOk_append.2 ⟨k1, fun x hx => by simp at hx; omega⟩, by simp; omega, by omega, hcl, hst⟩, by simp only [Int.toNat_natCast]; omega⟩))⟩
    · have hend := left_end (a := a) (by omega) k2 k5
      refine Let.as (r : Int) (by rw [w32N, Nat.mod_eq_of_lt (by omega)]) ⟨by simp only [List.length_cons, List.length_nil, dl_len]; unfold maxLen; omega, by simp only [List.length_cons, List.length_nil, dl_len]; omega, Let.as (dl (o ++ [r])) (by rw [dl_app]; rfl) ?_⟩
      rw [← hend]
      exact Call.mk (trim_ev (o ++ [r]) (dOk_append.2 ⟨k1, fun x hx => by simp at hx; omega⟩) (by simp; omega)) rfl
end Go.Sim.YtlkpbnhinnhlfaaGreat
-- seatfit
