/- What is proved: rat.Read yields something for every text (given what strings and strconv yield). -/
import Derived.Test.YtnnfiohdkobkdaaGreatDoorZZPLRatR

namespace Go.Sim.YtnnfiohdkobkdaaGreatDoor
open Go.RowKit Go.Proofs Go.Proofs.Tryz
def mulF : Nat → Nat → Option Nat
  | 0, n => some n
  | e + 1, n => if 0 < n * 10 / 18446744073709551616 then none else mulF e (n * 10 % 18446744073709551616)
def tailR (two five : Nat) (e : Int) (n : Nat) : GRat × Int :=
  if 62 < two then (GRat.zero, 3)
  else if 27 < five then (GRat.zero, 3)
  else match mulF e.toNat n with
    | none => (GRat.zero, 3)
    | some m => if 64 - blen (5 ^ five) < two then (GRat.zero, 3) else toR (madeS false m (5 ^ five * 2 ^ two))
theorem pow5 {k : Nat} (h : k ≤ 27) : 5 ^ k < 18446744073709551616 ∧ 0 < 5 ^ k := by
  have h1 : 5 ^ k ≤ 5 ^ 27 := Nat.pow_le_pow_right (by decide) h
  exact ⟨Nat.lt_of_le_of_lt h1 (by decide), Nat.pow_pos (by decide)⟩
/-- The digits that scaled reads: zeros ahead of them taken off. -/
def readD (k0 : Nat) (l : List UInt8) : List UInt8 := (tl (strOfNums (stripF 5 k0 (stripF 2 k0 (bytesI (bs l))).2).2) 0).drop (span zeroB (tl (strOfNums (stripF 5 k0 (stripF 2 k0 (bytesI (bs l))).2).2) 0))
theorem readD_len (k0 : Nat) (l : List UInt8) : (readD k0 l).length ≤ l.length := by
  have s2 := (stripF_le 2 k0 (bytesI (bs l))).2
  have s5 := (stripF_le 5 k0 (stripF 2 k0 (bytesI (bs l))).2).2
  unfold readD
  rw [List.length_drop, tl_len, strOfNums_size, s5, s2, bytesI_len, bs_size]; omega
theorem scaled_evX (ht0 : ∀ s : ByteArray, s.size ≤ 9223372036854775807 → Ev_strings_TrimLeft s (ByteArray.mk #[48]) (bs ((tl s 0).drop (span zeroB (tl s 0))))) {l : List UInt8} (h1 : 1 ≤ l.length) (h2 : l.length ≤ 200) {e : Int} (he : -1000 ≤ e ∧ e ≤ 1000) {k0 n : Nat} {er : Bool} (hk0 : k0 = (-e).toNat)
    (hn : n < 18446744073709551616) (hpu : Ev_strconv_ParseUint (bs (readD k0 l)) 10 64 ((n : Int), er)) :
    Ev_rat_scaled (bs l) e (if er = true then (GRat.zero, 3) else tailR (stripF 2 k0 (bytesI (bs l))).1 (stripF 5 k0 (stripF 2 k0 (bytesI (bs l))).2).1 e n) := by
  obtain ⟨l0, hl0⟩ : ∃ l0, l0 = bytesI (bs l) := ⟨_, rfl⟩
  unfold readD at hpu
  rw [← hl0] at hpu ⊢
  have len0 : l0.length = l.length := by rw [hl0, bytesI_len, bs_size]
  have s2 := stripF_le 2 k0 l0
  obtain ⟨two, htwo⟩ : ∃ two, two = (stripF 2 k0 l0).1 := ⟨_, rfl⟩
  obtain ⟨l1, hl1⟩ : ∃ l1, l1 = (stripF 2 k0 l0).2 := ⟨_, rfl⟩
  rw [← htwo, ← hl1] at s2
  rw [← hl1] at hpu
  rw [← htwo, ← hl1]
  have s5 := stripF_le 5 k0 l1
  obtain ⟨five, hfive⟩ : ∃ five, five = (stripF 5 k0 l1).1 := ⟨_, rfl⟩
  obtain ⟨l2, hl2⟩ : ∃ l2, l2 = (stripF 5 k0 l1).2 := ⟨_, rfl⟩
  rw [← hfive, ← hl2] at s5
  rw [← hl2] at hpu
  rw [← hfive]
  have size2 : (strOfNums l2).size ≤ 200 := by rw [strOfNums_size]; omega
  have t0 := ht0 (strOfNums l2) (by omega)
  refine walk_rat_scaled ?_
  unfold W_rat_scaled
  have w1 : IntKind.i64.wrap (0 - e) = 0 - e := wi (by omega) (by omega)
  have w2 : opMaxI (0 - e) 0 = ((k0 : Nat) : Int) := by unfold opMaxI; rw [hk0]; split <;> omega
  refine Let.as _ w1 (Let.as _ w2 (Let.as _ w1 (Let.as _ w2 (Let.as l0 hl0.symm ?_))))
  refine strip_ev (y := 2) (by decide) (by omega) (by omega) (by omega) ?_
  rw [← htwo, ← hl1]
  refine strip_ev (y := 5) (by decide) (by omega) (by omega) (by omega) ?_
  rw [← hfive, ← hl2]
  refine Let.it (Call.mk t0 (Call.mk hpu ?_))
  cases er with
  | true => exact Br.t rfl rfl
  | false =>
    refine Br.f rfl ?_
    show Br _ ((GRat.zero, (3 : Int)) = tailR two five e n) _
    refine Br.d (fun g1 => ?_) (fun g1 => Br.d (fun g2 => ?_) (fun g2 => ?_))
    · unfold tailR; rw [if_pos (by omega)]
    · show (GRat.zero, (3 : Int)) = tailR two five e n
      unfold tailR; rw [if_neg (by omega), if_pos (by omega)]
    have hr : tailR two five e n = match mulF e.toNat n with
        | none => (GRat.zero, 3)
        | some m => if 64 - blen (5 ^ five) < two then (GRat.zero, 3) else toR (madeS false m (5 ^ five * 2 ^ two)) := by
      unfold tailR; rw [if_neg (by omega), if_neg (by omega)]
    show Loop2 e (n : Int) _
    rw [show (if false = true then ((GRat.zero, 3) : GRat × Int) else tailR two five e n) = tailR two five e n from rfl, hr]
    refine ⟨fun a b => a ≤ 1000 ∧ ∃ m : Nat, b = (m : Int) ∧ m < 18446744073709551616 ∧ mulF a.toNat m = mulF e.toNat n, fun a _ => a.toNat, ⟨he.2, n, rfl, hn, rfl⟩, ?_⟩
    rintro a _ ⟨ha, m, rfl, hm, hq⟩
    refine Br.d (fun g3 => ?_) (fun g3 => ?_)
    · obtain ⟨i, hi⟩ : ∃ i, a.toNat = i + 1 := ⟨a.toNat - 1, by omega⟩
      rw [hi, mulF] at hq
      refine Call.mk (mul64_ev m 10 hm (by decide)) (Br.d (fun g4 => ?_) (fun g4 => ?_))
      · have g4' : 0 < m * 10 / 18446744073709551616 := by have : ((m * 10 / 18446744073709551616 : Nat) : Int) > 0 := g4; omega
        rw [if_pos g4'] at hq
        rw [← hq]
      · have g4' : ¬ 0 < m * 10 / 18446744073709551616 := by have : ¬ ((m * 10 / 18446744073709551616 : Nat) : Int) > 0 := g4; omega
        rw [if_neg g4'] at hq
        refine Let.as (a - 1) (wi (by omega) (by omega)) ⟨⟨by omega, _, rfl, Nat.mod_lt _ (by decide), ?_⟩, by show (a - 1).toNat < a.toNat; omega⟩
        rw [show (a - 1).toNat = i by omega]; exact hq
    · rw [show a.toNat = 0 by omega, mulF] at hq
      rw [← hq]
      have p5 := pow5 (k := five) (by omega)
      refine ⟨fun a b => ∃ j : Nat, a = (j : Int) ∧ j ≤ five ∧ b = ((5 ^ (five - j) : Nat) : Int), fun a _ => a.toNat, ⟨five, rfl, Nat.le_refl _, by rw [Nat.sub_self]; rfl⟩, ?_⟩
      rintro _ _ ⟨j, rfl, hj, rfl⟩
      refine Br.d (fun g4 => ?_) (fun g4 => ?_)
      · obtain ⟨i, rfl⟩ : ∃ i, j = i + 1 := ⟨j - 1, by omega⟩
        have q5 := pow5 (k := five - i) (by omega)
        have e5 : 5 ^ (five - i) = 5 ^ (five - (i + 1)) * 5 := by rw [show five - i = five - (i + 1) + 1 by omega, Nat.pow_succ]
        refine Let.as ((5 ^ (five - i) : Nat) : Int) ?_ (Let.as ((i : Nat) : Int) (by rw [wi (by omega) (by omega)]; omega) ⟨⟨i, rfl, by omega, rfl⟩, ?_⟩)
        · rw [e5] at q5
          rw [e5, show ((5 ^ (five - (i + 1)) : Nat) : Int) * 5 = ((5 ^ (five - (i + 1)) * 5 : Nat) : Int) by rw [Int.natCast_mul]; rfl]
          exact wu (by omega) (by omega)
        · show ((i : Nat) : Int).toNat < ((i + 1 : Nat) : Int).toNat
          rw [Int.toNat_natCast, Int.toNat_natCast]; omega
      · have : j = 0 := by omega
        subst this
        rw [Nat.sub_zero]
        refine Call.mk (lz64_ev _ p5.1) (Br.d (fun g5 => ?_) (fun g5 => ?_))
        · show _ = (if 64 - blen (5 ^ five) < two then _ else _)
          rw [if_pos (by omega)]
        · show Nn _ _
          have g6 : ¬ 64 - blen (5 ^ five) < two := by omega
          have hb : 5 ^ five < 2 ^ blen (5 ^ five) := (blen_le _ _).1 (Nat.le_refl _)
          have hb64 : blen (5 ^ five) ≤ 64 := (blen_le _ _).2 p5.1
          have hlt : 5 ^ five * 2 ^ two < 18446744073709551616 := by
            have := Nat.mul_lt_mul_of_pos_right hb (Nat.two_pow_pos two)
            rw [← Nat.pow_add] at this
            exact Nat.lt_of_lt_of_le this (Nat.pow_le_pow_right (by decide) (by omega) : 2 ^ (blen (5 ^ five) + two) ≤ 2 ^ 64)
          refine ⟨by omega, Let.as ((5 ^ five * 2 ^ two : Nat) : Int) ?_ ?_⟩
          · rw [Int.toNat_natCast, Nat.min_eq_left (by omega), show ((5 ^ five : Nat) : Int) * 2 ^ two = ((5 ^ five * 2 ^ two : Nat) : Int) by rw [Int.natCast_mul, Int.natCast_pow]; rfl]
            exact wu (by omega) (by omega)
          · refine Call.mk (made_ev false m _ hm hlt (Nat.ne_of_gt (Nat.mul_pos p5.2 (Nat.two_pow_pos _)))) ?_
            show _ = (if 64 - blen (5 ^ five) < two then _ else _)
            rw [if_neg g6]
end Go.Sim.YtnnfiohdkobkdaaGreatDoor

/- What is proved: rat.Read yields something for every text (given what strings and strconv yield). -/
namespace Go.Sim.YtnnfiohdkobkdaaGreatDoor
open Go.RowKit Go.Proofs Go.Proofs.Tryz
theorem AtS.head {b : UInt8} {l : List UInt8} {k : Int → Prop} (hk : k ((b.toNat : Nat) : Int)) : AtS (bs (b :: l)) (0 : Int) k := AtS.nat (p := 0) (b := b) (by unfold bs; rfl) hk
abbrev noParts : ByteArray × Int × Int × Bool := (ByteArray.mk #[], 0, 0, false)
/-- An exponent's digits. -/
def expW (x10 : ByteArray) (x11 : Int) (x54 : ByteArray) (x55 : Int) (Q : ByteArray × Int × Int × Bool → Prop) : Prop :=
  Call (Ev_rat_digits x54) fun x66 =>
  Br (decide (((x66.1.size : Nat) : Int) < (1 : Int))) (Q ((ByteArray.mk #[]), (0 : Int), (0 : Int), false)) (
    Br (decide (((x66.1.size : Nat) : Int) > (2 : Int))) (Q ((ByteArray.mk #[]), (0 : Int), (0 : Int), false)) (
      Br (!(x66.2.toList == (ByteArray.mk #[]).toList)) (Q ((ByteArray.mk #[]), (0 : Int), (0 : Int), false)) (
        Call (Ev_strconv_Atoi x66.1) fun x68 =>
        Let (IntKind.i64.wrap (x55 * x68.1)) fun x70 =>
        Q (x10, x11, x70, true))))
theorem span_take (f : Int → Bool) : ∀ l : List UInt8, span f (l.take (span f l)) = (l.take (span f l)).length
  | [] => rfl
  | b :: l => by
    by_cases h : f (b.toNat : Int) = true
    · rw [show span f (b :: l) = span f l + 1 by rw [span, if_pos h], List.take_succ_cons]
      rw [show span f (b :: l.take (span f l)) = span f (l.take (span f l)) + 1 by rw [span, if_pos h], span_take f l]
      simp
    · rw [show span f (b :: l) = 0 by rw [span, if_neg h]]; rfl
/-- What stands behind a number's digits. -/
def restW (x9 : ByteArray) (x10 : ByteArray) (x11 : Int) (Q : ByteArray × Int × Int × Bool → Prop) : Prop :=
  Br (x9.toList == (ByteArray.mk #[]).toList) (Q (x10, x11, (0 : Int), true)) (
    Join1 (fun j23 =>
      AtS x9 (0 : Int) fun x25 =>
      Br (x25 != (101 : Int)) (
        AtS x9 (0 : Int) fun x28 =>
        j23 (x28 != (69 : Int))) (
        j23 false)
    ) (fun (x22 : Bool) =>
      Br x22 (Q ((ByteArray.mk #[]), (0 : Int), (0 : Int), false)) (
        SlS x9 (1 : Int) ((x9.size : Nat) : Int) fun x30 =>
        Join1 (fun j38 =>
          Br (!(x30.toList == (ByteArray.mk #[]).toList)) (
            AtS x30 (0 : Int) fun x40 =>
            Br (x40 == (43 : Int)) (j38 true) (
              AtS x30 (0 : Int) fun x43 =>
              j38 (x43 == (45 : Int)))) (
            j38 false)
        ) (fun (x37 : Bool) =>
          Join2 (fun j56 =>
            Br x37 (
              AtS x30 (0 : Int) fun x58 =>
              Join1 (fun j61 =>
                Br (x58 == (45 : Int)) (j61 (-1 : Int)) (
                  j61 (1 : Int))
              ) (fun (x60 : Int) =>
                SlS x30 (1 : Int) ((x30.size : Nat) : Int) fun x62 =>
                j56 x62 x60)) (
              j56 x30 (1 : Int))
          ) (fun (x54 : ByteArray) (x55 : Int) => expW x10 x11 x54 x55 Q)))))
theorem bs_append (a b : List UInt8) : bs a ++ bs b = bs (a ++ b) := by
  apply ByteArray.ext
  rw [ByteArray.data_append]
  unfold bs
  simp
/-! ### All of Read -/
/-- Zeros at an end, taken off. -/
def offF : Nat → List UInt8 → Int → List UInt8 × Int
  | 0, a, e => (a, e)
  | k + 1, a, e => if a ≠ [] ∧ (a.getD (a.length - 1) 0).toNat = 48 then offF k (a.take (a.length - 1)) (e + 1) else (a, e)
theorem offF_le : ∀ (k : Nat) (a : List UInt8) (e : Int), (offF k a e).1.length ≤ a.length ∧ e ≤ (offF k a e).2 ∧ (offF k a e).2 ≤ e + k
  | 0, a, e => ⟨Nat.le_refl _, Int.le_refl _, by simp [offF]⟩
  | k + 1, a, e => by
    unfold offF
    split
    · have := offF_le k (a.take (a.length - 1)) (e + 1)
      rw [List.length_take] at this
      refine ⟨by omega, by omega, by omega⟩
    · exact ⟨Nat.le_refl _, Int.le_refl _, by show e ≤ e + ((k + 1 : Nat) : Int); omega⟩
theorem off_ev {a1 a2 : List UInt8} {e1 e2 : Int} (l1 : a1.length ≤ 80) (b0 : -200 ≤ e1) (b1 : e1 ≤ 400 - a1.length) (ha2 : a2 = (offF a1.length a1 e1).1) (he2 : e2 = (offF a1.length a1 e1).2) :
    Loop2 (bs a1) e1 (fun (all56 : ByteArray) (e57 : Int) next58 =>
      Br (decide (((all56.size : Nat) : Int) > (0 : Int))) (
        Let (IntKind.i64.wrap (((all56.size : Nat) : Int) - (1 : Int))) fun x63 =>
        AtS all56 x63 fun x65 =>
        Br (x65 == (48 : Int)) (
          Let (IntKind.i64.wrap (((all56.size : Nat) : Int) - (1 : Int))) fun x67 =>
          SlS all56 (0 : Int) x67 fun x68 =>
          Let (IntKind.i64.wrap (e57 + (1 : Int))) fun x69 =>
          next58 x68 x69) (
          all56 = bs a2 ∧ e57 = e2)) (
        all56 = bs a2 ∧ e57 = e2)) := by
  refine ⟨fun x y => ∃ (k : Nat) (b : List UInt8), x = bs b ∧ b.length ≤ k ∧ k ≤ 80 ∧ -200 ≤ y ∧ y ≤ 400 - k ∧ offF k b y = offF a1.length a1 e1, fun x _ => x.size, ⟨a1.length, a1, rfl, Nat.le_refl _, l1, b0, b1, rfl⟩, ?_⟩
  rintro _ y ⟨k, b, rfl, hb, hk, y0, y1, he⟩
  have done : b = [] ∨ (b.getD (b.length - 1) 0).toNat ≠ 48 → bs b = bs a2 ∧ y = e2 := by
    intro hor
    have : offF k b y = (b, y) := by
      cases k with
      | zero => rfl
      | succ k => rw [offF, if_neg (by rintro ⟨g1, g2⟩; exact hor.elim g1 (fun g => g g2))]
    rw [this] at he
    rw [ha2, he2, ← he]; exact ⟨rfl, rfl⟩
  refine Br.d (fun g => ?_) (fun g => done (.inl ?_))
  · rw [bs_size] at g
    have hlt : b.length - 1 < b.length := by omega
    refine Let.as ((b.length - 1 : Nat) : Int) (by rw [bs_size, wi (by omega) (by omega)]; omega) ?_
    have hget : (bs b)[b.length - 1]? = some (b[b.length - 1]) := by
      show (if hh : b.length - 1 < (bs b).size then some (bs b)[b.length - 1] else none) = _
      rw [dif_pos (by rw [bs_size]; exact hlt)]
      rfl
    have hgd : b.getD (b.length - 1) 0 = b[b.length - 1] := by simp [List.getD, List.getElem?_eq_getElem hlt]
    refine AtS.nat hget (Br.e (fun g1 => ?_) (fun g1 => done (.inr (by rw [hgd]; omega))))
    cases k with
    | zero => omega
    | succ k =>
      rw [offF, if_pos ⟨fun hn => by rw [hn] at hlt; simp at hlt, by rw [hgd]; omega⟩] at he
      refine Let.as ((b.length - 1 : Nat) : Int) (by rw [bs_size, wi (by omega) (by omega)]; omega) ?_
      have sl := SlS.tl (s := bs b) (p := 0) (n := b.length - 1) (k := fun x68 => Let (IntKind.i64.wrap (y + (1 : Int))) fun x69 =>
        (∃ (k : Nat) (b : List UInt8), x68 = bs b ∧ b.length ≤ k ∧ k ≤ 80 ∧ -200 ≤ x69 ∧ x69 ≤ 400 - k ∧ offF k b x69 = offF a1.length a1 e1) ∧ x68.size < (bs b).size) (by rw [bs_size]; omega)
        (by
          rw [tl_bs]
          refine Let.as (y + 1) (wi (by omega) (by omega)) ⟨⟨k, b.take (b.length - 1), rfl, by rw [List.length_take]; omega, by omega, by omega, by omega, he⟩, by rw [bs_size, bs_size, List.length_take]; omega⟩)
      rw [Nat.zero_add] at sl
      exact sl
  · rw [bs_size] at g
    exact List.eq_nil_of_length_eq_zero (by omega)
end Go.Sim.YtnnfiohdkobkdaaGreatDoor
