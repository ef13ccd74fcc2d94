/- What is proved: rat.Read yields something for every text (given what strings and strconv yield). -/
import Derived.Test.YtifjflhnfjhijaaGreatDoorZPSPevD
import Derived.Test.YtifjflhnfjhijaaGreatDoorZPSWR
import Derived.Test.YtifjflhnfjhijaaGreatDoorZPSExtB

namespace Go.Sim.YtifjflhnfjhijaaGreatDoor
open Go.RowKit Go.Proofs Go.Proofs.Tryz
abbrev tens : ByteArray := ByteArray.mk #[48, 49, 50, 51, 52, 53, 54, 55, 56, 57]
def qJf (c : Int) : Bool := c == 48
structure qVv : Prop where
 t10 : ∀ s : ByteArray, s.size <= 9223372036854775807 -> q17 s tens (bs ((tl s 0).drop (span q05 (tl s 0))))
 t0 : ∀ s : ByteArray, s.size <= 9223372036854775807 -> q17 s (ByteArray.mk #[48]) (bs ((tl s 0).drop (span qJf (tl s 0))))
 atoi : ∀ l : List UInt8, 1 <= l.length -> l.length <= 2 -> span q05 l = l.length -> ∃ n : Int, q0z (bs l) (n, false) /\ 0 <= n /\ n <= 99
 pu : ∀ s : ByteArray, s.size <= 20000 -> ∃ (n : Nat) (e : Bool), n < 18446744073709551616 /\ q1c s 10 64 ((n : Int), e)
theorem qPv (s : ByteArray) : bs (tl s 0) = s := by
 unfold bs tl; rw [List.drop_zero]
theorem qJg (l : List UInt8) : tl (bs l) 0 = l := by unfold bs tl; rfl
theorem qF1 {l : List UInt8} : ((bs l).toList == (ByteArray.mk #[]).toList) = decide (l = []) := by
 by_cases h : l = []
 ·subst h; rw [decide_eq_true rfl]; exact q9p.2 rfl
 ·rw [decide_eq_false h]
  apply Bool.eq_false_iff.2
  intro e
  have := q9p.1 e
  apply h
  have h2 := congrArg (fun x : ByteArray => x.data.toList) this
  simpa [bs] using h2
theorem qJh (h : qVv) {l : List UInt8} (hl : l.length <= 9223372036854775807) : q4f (bs l) (bs (l.take (span q05 l)), bs (l.drop (span q05 l))) := by
 refine qJe ?_
 unfold qCv
 have h1 := h.t10 (bs l) (by rw [q0f]; exact hl)
 rw [qJg] at h1
 have h2 := q1o q05 l
 refine Call.mk h1 (Let.as ((span q05 l : Nat) : Int) (by rw [q0f, q0f, List.length_drop, wi (by omega) (by omega)]; omega) ?_)
 have h3 : SlS (bs l) ((0 : Nat) : Int) ((0 + span q05 l : Nat) : Int) (fun x5 => (x5, bs (l.drop (span q05 l))) = (bs (l.take (span q05 l)), bs (l.drop (span q05 l)))) :=
  SlS.tl (by rw [q0f]; omega) (by rw [qJg])
 rw [Nat.zero_add] at h3
 exact h3
theorem qVw {l : List UInt8} (h : (decide (1 <= l.length) && ((bs (l.take 1)).toList == (ByteArray.mk #[46]).toList)) = true) : peek l 0 = 46 := by
 simp only [Bool.and_eq_true] at h
 have e := q9p.1 h.2
 cases l with
 | nil => simp at h
 | cons b l =>
  have h2 := congrArg (fun x : ByteArray => x.data.toList) e
  have h3 : b = 46 := by simpa [bs] using h2
  rw [h3]; rfl
theorem qYl {l : List UInt8} (h : (decide (1 <= l.length) && ((bs (l.take 1)).toList == (ByteArray.mk #[46]).toList)) = false) : peek l 0 ≠ 46 := by
 intro hp
 cases l with
 | nil => simp [peek] at hp
 | cons b l =>
  have hb : (b.toNat : Int) = 46 := by simpa [peek] using hp
  have h3 : b = 46 := UInt8.toNat_inj.1 (by show b.toNat = 46; omega)
  rw [h3] at h
  rw [Bool.and_eq_false_iff] at h
  rcases h with h | h
  ·simp at h
  ·rw [show bs (List.take 1 ((46 : UInt8) :: l)) = ByteArray.mk #[46] from rfl] at h
   simp at h
theorem qYm (l : List UInt8) (hl : l.length <= 9223372036854775807) : ∃ (r : List UInt8) (b : Bool), r.length <= l.length /\ q4o (bs l) (ByteArray.mk #[46]) (bs r, b) /\ (b = true -> peek l 0 = 46 /\ l.drop 1 = r) /\ (b = false -> peek l 0 ≠ 46) := by
 have hp : q1a (bs l) (ByteArray.mk #[46]) (decide (1 <= l.length) && ((bs (l.take 1)).toList == (ByteArray.mk #[46]).toList)) := by
  refine q5o ?_
  unfold q1d
  have e1 : (ByteArray.mk #[46]).size = 1 := rfl
  rw [q0f, e1]
  refine Br.d (fun h => ?_) (fun h => ?_)
  ·have h1 : 1 <= l.length := by omega
   rw [decide_eq_true h1, Bool.true_and]
   exact SlS.tl (s := bs l) (p := 0) (n := 1) (by rw [q0f]; omega) (by rw [qJg])
  ·rw [decide_eq_false (by omega), Bool.false_and]
 cases hb : (decide (1 <= l.length) && ((bs (l.take 1)).toList == (ByteArray.mk #[46]).toList)) with
 | false =>
  rw [hb] at hp
  refine ⟨l, false, Nat.le_refl _, q6z ?_, fun h => by simp at h, fun _ => qYl hb⟩
  unfold q36
  refine Call.mk (q1y (r := (bs l, false)) ?_) rfl
  unfold q0y
  exact Call.mk hp (Br.t rfl rfl)
 | true =>
  rw [hb] at hp
  have h1 : 1 <= l.length := by simp only [Bool.and_eq_true, decide_eq_true_eq] at hb; exact hb.1
  refine ⟨l.drop 1, true, by rw [List.length_drop]; omega, q6z ?_, fun _ => ⟨qVw hb, rfl⟩, fun h => by simp at h⟩
  unfold q36
  refine Call.mk (q1y (r := (bs (l.drop 1), true)) ?_) rfl
  unfold q0y
  refine Call.mk hp (Br.f rfl ?_)
  have e : ((bs l).size : Int) = ((1 + (l.length - 1) : Nat) : Int) := by rw [q0f]; omega
  rw [e]
  refine SlS.tl (s := bs l) (p := 1) (n := l.length - 1) (by rw [q0f]; omega) ?_
  have : tl (bs l) 1 = l.drop 1 := by rw [← q5n (bs l) 0 1, qJg]
  rw [this, List.take_of_length_le (by rw [List.length_drop]; exact Nat.le_refl _)]
theorem qTo {l : List UInt8} {p : Nat} {k : ByteArray -> Prop} (h : p <= l.length) (hk : k (bs (l.drop p))) : SlS (bs l) (p : Int) ((bs l).size : Int) k := by
 have e : ((bs l).size : Int) = ((p + (l.length - p) : Nat) : Int) := by rw [q0f]; omega
 rw [e]
 refine SlS.tl (s := bs l) (by rw [q0f]; omega) ?_
 have : tl (bs l) p = l.drop p := by
  have := q5n (bs l) 0 p
  rw [qJg, Nat.zero_add] at this; exact this.symm
 rw [this, List.take_of_length_le (by rw [List.length_drop]; exact Nat.le_refl _)]
 exact hk
def q5t (y : Int) : List Int -> Int -> List Int
 | [], _ => []
 | c :: t, r =>
  let v := IntKind.u8.wrap (IntKind.u8.wrap (IntKind.u8.wrap (r * 10) + c) - 48)
  IntKind.u8.wrap (48 + IntKind.u8.wrap (Int.tdiv v y)) :: q5t y t (Int.tmod v y)
theorem qD6 (y : Int) : ∀ (l : List Int) (r : Int), (q5t y l r).length = l.length
 | [], _ => rfl
 | c :: t, r => by unfold q5t; simp [qD6 y t]
theorem qTp (l : List Int) (y : Int) (hy : y ≠ 0) (hl : l.length <= 20000) : q7p l y (q5t y l 0) := by
 refine qK5 ?_
 unfold qEf
 refine ⟨by omega, by omega, by omega, Let.as (List.replicate l.length 0) (by rw [Int.toNat_natCast]) ?_⟩
 refine ⟨fun out rest i => ∃ j : Nat, i = (j : Int) /\ j <= l.length /\ out.length = l.length /\ out.take j ++ q5t y (l.drop j) rest = q5t y l 0, fun _ _ i => l.length - i.toNat, ⟨0, rfl, Nat.zero_le _, by simp, by simp⟩, ?_⟩
 rintro out rest _ ⟨j, rfl, hj, ho, he⟩
 refine Br.d (fun h => ?_) (fun h => ?_)
 ·have hj1 : j < l.length := by omega
  have hx : l[j]? = some l[j] := List.getElem?_eq_getElem hj1
  have hz : out[j]? = some (out[j]'(by omega)) := List.getElem?_eq_getElem (by omega)
  refine ⟨by omega, l[j], by rw [Int.toNat_natCast]; exact hx, ?_⟩
  refine Let.it (Let.it (Let.it ⟨hy, Let.it (Let.it ⟨hy, Let.it ⟨by omega, _, by rw [Int.toNat_natCast]; exact hz, Let.as ((j + 1 : Nat) : Int) (wi1 (by omega)) ⟨⟨j + 1, rfl, hj1, by simp [ho], ?_⟩, ?_⟩⟩⟩)⟩))
  ·rw [← he, Int.toNat_natCast, List.drop_eq_getElem_cons hj1]
   conv => rhs; unfold q5t
   rw [List.take_set]
   have e2 : out.take (j + 1) = out.take j ++ [out[j]'(by omega)] := by rw [List.take_add_one, hz]; rfl
   rw [e2, List.set_append_right _ _ (by rw [List.length_take]; omega)]
   rw [List.length_take, show j - min j out.length = 0 by omega, List.set_cons_zero, List.append_assoc]
   rfl
  ·show l.length - ((j + 1 : Nat) : Int).toNat < l.length - ((j : Nat) : Int).toNat
   rw [Int.toNat_natCast, Int.toNat_natCast]; omega
 ·have : j = l.length := by omega
  subst this
  rw [List.drop_of_length_le (Nat.le_refl _), List.take_of_length_le (by omega)] at he
  show out = _
  rw [← he]; simp [q5t]
def q1e (y : Int) : Nat -> List Int -> Nat × List Int
 | 0, l => (0, l)
 | k + 1, l => if Int.tmod (IntKind.u8.wrap ((l[l.length - 1]?).getD 0 - 48)) y = 0 then q1e y k (q5t y l 0) else (k + 1, l)
theorem q92 (y : Int) : ∀ (k : Nat) (l : List Int), (q1e y k l).1 <= k /\ (q1e y k l).2.length = l.length
 | 0, l => ⟨Nat.le_refl _, rfl⟩
 | k + 1, l => by
  unfold q1e
  split
  ·have := q92 y k (q5t y l 0)
   rw [qD6] at this
   exact ⟨by omega, this.2⟩
  ·exact ⟨Nat.le_refl _, rfl⟩
theorem qP1 {y : Int} (hy : y ≠ 0) {k0 : Nat} {l0 : List Int} (hl0 : 1 <= l0.length) (hl1 : l0.length <= 20000) (hk0 : k0 <= 100000) {k : Int -> List Int -> Prop} (hk : k ((q1e y k0 l0).1 : Int) (q1e y k0 l0).2) :
    q3r (fun j54 => Loop2 (k0 : Int) l0 (fun (x75 : Int) (x76 : List Int) next77 =>
      Br (decide (x75 > (0 : Int))) (
        Let (IntKind.i64.wrap (((x76.length : Nat) : Int) - (1 : Int))) fun x86 =>
        At x76 x86 fun x88 =>
        Let (IntKind.u8.wrap (x88 - (48 : Int))) fun x90 =>
        Let (Int.tmod x90 y) fun x91 =>
        Br (x91 == (0 : Int)) (
          Call (q7p x76 y) fun x92 =>
          Let (IntKind.i64.wrap (x75 - (1 : Int))) fun x94 =>
          next77 x94 x92) (
          j54 x75 x76)) (
        j54 x75 x76))) k := by
  refine ⟨fun a b => a = ((q1e y k0 l0).1 : Int) /\ b = (q1e y k0 l0).2, ?_, fun a b hab => by rw [hab.1, hab.2]; exact hk⟩
  refine ⟨fun a b => ∃ j : Nat, a = (j : Int) /\ j <= k0 /\ b.length = l0.length /\ q1e y j b = q1e y k0 l0, fun a _ => a.toNat, ⟨k0, rfl, Nat.le_refl _, rfl, rfl⟩, ?_⟩
  rintro _ b ⟨j, rfl, hj, hb, he⟩
  refine Br.d (fun h => ?_) (fun h => ?_)
  · obtain ⟨i, rfl⟩ : ∃ i, j = i + 1 := ⟨j - 1, by omega⟩
    have hx : b[b.length - 1]? = some (b[b.length - 1]'(by omega)) := List.getElem?_eq_getElem (by omega)
    refine Let.as ((b.length - 1 : Nat) : Int) (by rw [wi (by omega) (by omega)]; omega) ⟨by omega, _, by rw [Int.toNat_natCast]; exact hx, Let.it (Let.it ?_)⟩
    refine Br.e (fun h1 => ?_) (fun h1 => ?_)
    · rw [q1e, if_pos (by rw [hx]; exact h1)] at he
      refine Call.mk (qTp b y hy (by omega)) (Let.as ((i : Nat) : Int) (by rw [wi (by omega) (by omega)]; omega) ⟨⟨i, rfl, by omega, by rw [qD6]; exact hb, he⟩, ?_⟩)
      show ((i : Nat) : Int).toNat < ((i + 1 : Nat) : Int).toNat
      rw [Int.toNat_natCast, Int.toNat_natCast]; omega
    · rw [q1e, if_neg (by rw [hx]; exact h1)] at he
      rw [← he]; exact ⟨rfl, rfl⟩
  · have : j = 0 := by omega
    subst this
    rw [← he]; exact ⟨rfl, rfl⟩
end Go.Sim.YtifjflhnfjhijaaGreatDoor

/- What is proved: rat.Read yields something for every text (given what strings and strconv yield). -/
namespace Go.Sim.YtifjflhnfjhijaaGreatDoor
open Go.RowKit Go.Proofs Go.Proofs.Tryz
def mulF : Nat -> Nat -> Option Nat
 | 0, n => some n
 | e + 1, n => if 0 < n * 10 / 18446744073709551616 then none else mulF e (n * 10 % 18446744073709551616)
def qJi (two five : Nat) (e : Int) (n : Nat) : GRat × Int :=
 if 62 < two then (GRat.zero, 3)
 else if 27 < five then (GRat.zero, 3)
 else match mulF e.toNat n with
  | none => (GRat.zero, 3)
  | some m => if 64 - blen (5 ^ five) < two then (GRat.zero, 3) else toR (q4d false m (5 ^ five * 2 ^ two))
theorem pow5 {k : Nat} (h : k <= 27) : 5 ^ k < 18446744073709551616 /\ 0 < 5 ^ k := by
 have h1 : 5 ^ k <= 5 ^ 27 := Nat.pow_le_pow_right (by decide) h
 exact ⟨Nat.lt_of_le_of_lt h1 (by decide), Nat.pow_pos (by decide)⟩
def qG7 (k0 : Nat) (l : List UInt8) : List UInt8 := (tl (strOfNums (q1e 5 k0 (q1e 2 k0 (q9a (bs l))).2).2) 0).drop (span qJf (tl (strOfNums (q1e 5 k0 (q1e 2 k0 (q9a (bs l))).2).2) 0))
theorem qRv (k0 : Nat) (l : List UInt8) : (qG7 k0 l).length <= l.length := by
 have s2 := (q92 2 k0 (q9a (bs l))).2
 have s5 := (q92 5 k0 (q1e 2 k0 (q9a (bs l))).2).2
 unfold qG7
 rw [List.length_drop, q90, strOfNums_size, s5, s2, qD0, q0f]; omega
theorem qPw (ht0 : ∀ s : ByteArray, s.size <= 9223372036854775807 -> q17 s (ByteArray.mk #[48]) (bs ((tl s 0).drop (span qJf (tl s 0))))) {l : List UInt8} (h1 : 1 <= l.length) (h2 : l.length <= 200) {e : Int} (he : -1000 <= e /\ e <= 1000) {k0 n : Nat} {er : Bool} (hk0 : k0 = (-e).toNat)
    (hn : n < 18446744073709551616) (hpu : q1c (bs (qG7 k0 l)) 10 64 ((n : Int), er)) :
    q68 (bs l) e (if er = true then (GRat.zero, 3) else qJi (q1e 2 k0 (q9a (bs l))).1 (q1e 5 k0 (q1e 2 k0 (q9a (bs l))).2).1 e n) := by
  obtain ⟨l0, hl0⟩ : ∃ l0, l0 = q9a (bs l) := ⟨_, rfl⟩
  unfold qG7 at hpu
  rw [← hl0] at hpu ⊢
  have len0 : l0.length = l.length := by rw [hl0, qD0, q0f]
  have s2 := q92 2 k0 l0
  obtain ⟨two, htwo⟩ : ∃ two, two = (q1e 2 k0 l0).1 := ⟨_, rfl⟩
  obtain ⟨l1, hl1⟩ : ∃ l1, l1 = (q1e 2 k0 l0).2 := ⟨_, rfl⟩
  rw [← htwo, ← hl1] at s2
  rw [← hl1] at hpu
  rw [← htwo, ← hl1]
  have s5 := q92 5 k0 l1
  obtain ⟨five, hfive⟩ : ∃ five, five = (q1e 5 k0 l1).1 := ⟨_, rfl⟩
  obtain ⟨l2, hl2⟩ : ∃ l2, l2 = (q1e 5 k0 l1).2 := ⟨_, rfl⟩
  rw [← hfive, ← hl2] at s5
  rw [← hl2] at hpu
  rw [← hfive]
  have size2 : (strOfNums l2).size <= 200 := by rw [strOfNums_size]; omega
  have t0 := ht0 (strOfNums l2) (by omega)
  refine qJd ?_
  unfold qCu
  have w1 : IntKind.i64.wrap (0 - e) = 0 - e := wi (by omega) (by omega)
  have w2 : qOh (0 - e) 0 = ((k0 : Nat) : Int) := by unfold qOh; rw [hk0]; split <;> omega
  refine Let.as _ w1 (Let.as _ w2 (Let.as _ w1 (Let.as _ w2 (Let.as l0 hl0.symm ?_))))
  refine qP1 (y := 2) (by decide) (by omega) (by omega) (by omega) ?_
  rw [← htwo, ← hl1]
  refine qP1 (y := 5) (by decide) (by omega) (by omega) (by omega) ?_
  rw [← hfive, ← hl2]
  refine Let.it (Call.mk t0 (Call.mk hpu ?_))
  cases er with
  | true => exact Br.t rfl rfl
  | false =>
    refine Br.f rfl ?_
    show Br _ ((GRat.zero, (3 : Int)) = qJi two five e n) _
    refine Br.d (fun g1 => ?_) (fun g1 => Br.d (fun g2 => ?_) (fun g2 => ?_))
    · unfold qJi; rw [if_pos (by omega)]
    · show (GRat.zero, (3 : Int)) = qJi two five e n
      unfold qJi; rw [if_neg (by omega), if_pos (by omega)]
    have hr : qJi two five e n = match mulF e.toNat n with
        | none => (GRat.zero, 3)
        | some m => if 64 - blen (5 ^ five) < two then (GRat.zero, 3) else toR (q4d false m (5 ^ five * 2 ^ two)) := by
      unfold qJi; rw [if_neg (by omega), if_neg (by omega)]
    show Loop2 e (n : Int) _
    rw [show (if false = true then ((GRat.zero, 3) : GRat × Int) else qJi two five e n) = qJi two five e n from rfl, hr]
    refine ⟨fun a b => a <= 1000 /\ ∃ m : Nat, b = (m : Int) /\ m < 18446744073709551616 /\ mulF a.toNat m = mulF e.toNat n, fun a _ => a.toNat, ⟨he.2, n, rfl, hn, rfl⟩, ?_⟩
    rintro a _ ⟨ha, m, rfl, hm, hq⟩
    refine Br.d (fun g3 => ?_) (fun g3 => ?_)
    · obtain ⟨i, hi⟩ : ∃ i, a.toNat = i + 1 := ⟨a.toNat - 1, by omega⟩
      rw [hi, mulF] at hq
      refine Call.mk (qTc m 10 hm (by decide)) (Br.d (fun g4 => ?_) (fun g4 => ?_))
      · have g4' : 0 < m * 10 / 18446744073709551616 := by have : ((m * 10 / 18446744073709551616 : Nat) : Int) > 0 := g4; omega
        rw [if_pos g4'] at hq
        rw [← hq]
      · have g4' : ¬ 0 < m * 10 / 18446744073709551616 := by have : ¬ ((m * 10 / 18446744073709551616 : Nat) : Int) > 0 := g4; omega
        rw [if_neg g4'] at hq
        refine Let.as (a - 1) (wi (by omega) (by omega)) ⟨⟨by omega, _, rfl, Nat.mod_lt _ (by decide), ?_⟩, by show (a - 1).toNat < a.toNat; omega⟩
        rw [show (a - 1).toNat = i by omega]; exact hq
    · rw [show a.toNat = 0 by omega, mulF] at hq
      rw [← hq]
      have p5 := pow5 (k := five) (by omega)
      refine ⟨fun a b => ∃ j : Nat, a = (j : Int) /\ j <= five /\ b = ((5 ^ (five - j) : Nat) : Int), fun a _ => a.toNat, ⟨five, rfl, Nat.le_refl _, by rw [Nat.sub_self]; rfl⟩, ?_⟩
      rintro _ _ ⟨j, rfl, hj, rfl⟩
      refine Br.d (fun g4 => ?_) (fun g4 => ?_)
      · obtain ⟨i, rfl⟩ : ∃ i, j = i + 1 := ⟨j - 1, by omega⟩
        have q5 := pow5 (k := five - i) (by omega)
        have e5 : 5 ^ (five - i) = 5 ^ (five - (i + 1)) * 5 := by rw [show five - i = five - (i + 1) + 1 by omega, Nat.pow_succ]
        refine Let.as ((5 ^ (five - i) : Nat) : Int) ?_ (Let.as ((i : Nat) : Int) (by rw [wi (by omega) (by omega)]; omega) ⟨⟨i, rfl, by omega, rfl⟩, ?_⟩)
        · rw [e5] at q5
          rw [e5, show ((5 ^ (five - (i + 1)) : Nat) : Int) * 5 = ((5 ^ (five - (i + 1)) * 5 : Nat) : Int) by rw [Int.natCast_mul]; rfl]
          exact wu (by omega) (by omega)
        · show ((i : Nat) : Int).toNat < ((i + 1 : Nat) : Int).toNat
          rw [Int.toNat_natCast, Int.toNat_natCast]; omega
      · have : j = 0 := by omega
        subst this
        rw [Nat.sub_zero]
        refine Call.mk (qVf _ p5.1) (Br.d (fun g5 => ?_) (fun g5 => ?_))
        · show _ = (if 64 - blen (5 ^ five) < two then _ else _)
          rw [if_pos (by omega)]
        · show Nn _ _
          have g6 : ¬ 64 - blen (5 ^ five) < two := by omega
          have hb : 5 ^ five < 2 ^ blen (5 ^ five) := (q2w _ _).1 (Nat.le_refl _)
          have hb64 : blen (5 ^ five) <= 64 := (q2w _ _).2 p5.1
          have hlt : 5 ^ five * 2 ^ two < 18446744073709551616 := by
            have := Nat.mul_lt_mul_of_pos_right hb (Nat.two_pow_pos two)
            rw [← Nat.pow_add] at this
            exact Nat.lt_of_lt_of_le this (Nat.pow_le_pow_right (by decide) (by omega) : 2 ^ (blen (5 ^ five) + two) <= 2 ^ 64)
          refine ⟨by omega, Let.as ((5 ^ five * 2 ^ two : Nat) : Int) ?_ ?_⟩
          · rw [Int.toNat_natCast, Nat.min_eq_left (by omega), show ((5 ^ five : Nat) : Int) * 2 ^ two = ((5 ^ five * 2 ^ two : Nat) : Int) by rw [Int.natCast_mul, Int.natCast_pow]; rfl]
            exact wu (by omega) (by omega)
          · refine Call.mk (qR9 false m _ hm hlt (Nat.ne_of_gt (Nat.mul_pos p5.2 (Nat.two_pow_pos _)))) ?_
            show _ = (if 64 - blen (5 ^ five) < two then _ else _)
            rw [if_neg g6]
end Go.Sim.YtifjflhnfjhijaaGreatDoor

/- What is proved: rat.Read yields something for every text (given what strings and strconv yield). -/
namespace Go.Sim.YtifjflhnfjhijaaGreatDoor
open Go.RowKit Go.Proofs Go.Proofs.Tryz
theorem AtS.head {b : UInt8} {l : List UInt8} {k : Int -> Prop} (hk : k ((b.toNat : Nat) : Int)) : AtS (bs (b :: l)) (0 : Int) k := AtS.nat (p := 0) (b := b) (by unfold bs; rfl) hk
abbrev qLd : ByteArray × Int × Int × Bool := (ByteArray.mk #[], 0, 0, false)
def expW (x10 : ByteArray) (x11 : Int) (x54 : ByteArray) (x55 : Int) (Q : ByteArray × Int × Int × Bool -> Prop) : Prop :=
 Call (q4f x54) fun x66 =>
 Br (decide (((x66.1.size : Nat) : Int) < (1 : Int))) (Q ((ByteArray.mk #[]), (0 : Int), (0 : Int), false)) (
  Br (decide (((x66.1.size : Nat) : Int) > (2 : Int))) (Q ((ByteArray.mk #[]), (0 : Int), (0 : Int), false)) (
   Br (!(x66.2.toList == (ByteArray.mk #[]).toList)) (Q ((ByteArray.mk #[]), (0 : Int), (0 : Int), false)) (
    Call (q0z x66.1) fun x68 =>
    Let (IntKind.i64.wrap (x55 * x68.1)) fun x70 =>
    Q (x10, x11, x70, true))))
theorem qA5 (f : Int -> Bool) : ∀ l : List UInt8, span f (l.take (span f l)) = (l.take (span f l)).length
 | [] => rfl
 | b :: l => by
  by_cases h : f (b.toNat : Int) = true
  ·rw [show span f (b :: l) = span f l + 1 by rw [span, if_pos h], List.take_succ_cons]
   rw [show span f (b :: l.take (span f l)) = span f (l.take (span f l)) + 1 by rw [span, if_pos h], qA5 f l]
   simp
  ·rw [show span f (b :: l) = 0 by rw [span, if_neg h]]; rfl
def z08 (x9 : ByteArray) (x10 : ByteArray) (x11 : Int) (Q : ByteArray × Int × Int × Bool -> Prop) : Prop :=
 Br (x9.toList == (ByteArray.mk #[]).toList) (Q (x10, x11, (0 : Int), true)) (
  q16 (fun j23 =>
   AtS x9 (0 : Int) fun x25 =>
   Br (x25 != (101 : Int)) (
    AtS x9 (0 : Int) fun x28 =>
    j23 (x28 != (69 : Int))) (
    j23 false)
  ) (fun (x22 : Bool) =>
   Br x22 (Q ((ByteArray.mk #[]), (0 : Int), (0 : Int), false)) (
    SlS x9 (1 : Int) ((x9.size : Nat) : Int) fun x30 =>
    q16 (fun j38 =>
     Br (!(x30.toList == (ByteArray.mk #[]).toList)) (
      AtS x30 (0 : Int) fun x40 =>
      Br (x40 == (43 : Int)) (j38 true) (
       AtS x30 (0 : Int) fun x43 =>
       j38 (x43 == (45 : Int)))) (
      j38 false)
    ) (fun (x37 : Bool) =>
     q3r (fun j56 =>
      Br x37 (
       AtS x30 (0 : Int) fun x58 =>
       q16 (fun j61 =>
        Br (x58 == (45 : Int)) (j61 (-1 : Int)) (
         j61 (1 : Int))
       ) (fun (x60 : Int) =>
        SlS x30 (1 : Int) ((x30.size : Nat) : Int) fun x62 =>
        j56 x62 x60)) (
       j56 x30 (1 : Int))
     ) (fun (x54 : ByteArray) (x55 : Int) => expW x10 x11 x54 x55 Q)))))
theorem qMm (a b : List UInt8) : bs a ++ bs b = bs (a ++ b) := by
 apply ByteArray.ext
 rw [ByteArray.data_append]
 unfold bs
 simp
def offF : Nat -> List UInt8 -> Int -> List UInt8 × Int
 | 0, a, e => (a, e)
 | k + 1, a, e => if a ≠ [] /\ (a.getD (a.length - 1) 0).toNat = 48 then offF k (a.take (a.length - 1)) (e + 1) else (a, e)
theorem qRw : ∀ (k : Nat) (a : List UInt8) (e : Int), (offF k a e).1.length <= a.length /\ e <= (offF k a e).2 /\ (offF k a e).2 <= e + k
 | 0, a, e => ⟨Nat.le_refl _, Int.le_refl _, by simp [offF]⟩
 | k + 1, a, e => by
  unfold offF
  split
  ·have := qRw k (a.take (a.length - 1)) (e + 1)
   rw [List.length_take] at this
   refine ⟨by omega, by omega, by omega⟩
  ·exact ⟨Nat.le_refl _, Int.le_refl _, by show e <= e + ((k + 1 : Nat) : Int); omega⟩
theorem qYn {a1 a2 : List UInt8} {e1 e2 : Int} (l1 : a1.length <= 80) (b0 : -200 <= e1) (b1 : e1 <= 400 - a1.length) (ha2 : a2 = (offF a1.length a1 e1).1) (he2 : e2 = (offF a1.length a1 e1).2) :
    Loop2 (bs a1) e1 (fun (all56 : ByteArray) (e57 : Int) next58 =>
      Br (decide (((all56.size : Nat) : Int) > (0 : Int))) (
        Let (IntKind.i64.wrap (((all56.size : Nat) : Int) - (1 : Int))) fun x63 =>
        AtS all56 x63 fun x65 =>
        Br (x65 == (48 : Int)) (
          Let (IntKind.i64.wrap (((all56.size : Nat) : Int) - (1 : Int))) fun x67 =>
          SlS all56 (0 : Int) x67 fun x68 =>
          Let (IntKind.i64.wrap (e57 + (1 : Int))) fun x69 =>
          next58 x68 x69) (
          all56 = bs a2 /\ e57 = e2)) (
        all56 = bs a2 /\ e57 = e2)) := by
  refine ⟨fun x y => ∃ (k : Nat) (b : List UInt8), x = bs b /\ b.length <= k /\ k <= 80 /\ -200 <= y /\ y <= 400 - k /\ offF k b y = offF a1.length a1 e1, fun x _ => x.size, ⟨a1.length, a1, rfl, Nat.le_refl _, l1, b0, b1, rfl⟩, ?_⟩
  rintro _ y ⟨k, b, rfl, hb, hk, y0, y1, he⟩
  have done : b = [] \/ (b.getD (b.length - 1) 0).toNat ≠ 48 -> bs b = bs a2 /\ y = e2 := by
    intro hor
    have : offF k b y = (b, y) := by
      cases k with
      | zero => rfl
      | succ k => rw [offF, if_neg (by rintro ⟨g1, g2⟩; exact hor.elim g1 (fun g => g g2))]
    rw [this] at he
    rw [ha2, he2, ← he]; exact ⟨rfl, rfl⟩
  refine Br.d (fun g => ?_) (fun g => done (.inl ?_))
  · rw [q0f] at g
    have hlt : b.length - 1 < b.length := by omega
    refine Let.as ((b.length - 1 : Nat) : Int) (by rw [q0f, wi (by omega) (by omega)]; omega) ?_
    have hget : (bs b)[b.length - 1]? = some (b[b.length - 1]) := by
      show (if hh : b.length - 1 < (bs b).size then some (bs b)[b.length - 1] else none) = _
      rw [dif_pos (by rw [q0f]; exact hlt)]
      rfl
    have hgd : b.getD (b.length - 1) 0 = b[b.length - 1] := by simp [List.getD, List.getElem?_eq_getElem hlt]
    refine AtS.nat hget (Br.e (fun g1 => ?_) (fun g1 => done (.inr (by rw [hgd]; omega))))
    cases k with
    | zero => omega
    | succ k =>
      rw [offF, if_pos ⟨fun hn => by rw [hn] at hlt; simp at hlt, by rw [hgd]; omega⟩] at he
      refine Let.as ((b.length - 1 : Nat) : Int) (by rw [q0f, wi (by omega) (by omega)]; omega) ?_
      have sl := SlS.tl (s := bs b) (p := 0) (n := b.length - 1) (k := fun x68 => Let (IntKind.i64.wrap (y + (1 : Int))) fun x69 =>
        (∃ (k : Nat) (b : List UInt8), x68 = bs b /\ b.length <= k /\ k <= 80 /\ -200 <= x69 /\ x69 <= 400 - k /\ offF k b x69 = offF a1.length a1 e1) /\ x68.size < (bs b).size) (by rw [q0f]; omega)
        (by
          rw [qJg]
          refine Let.as (y + 1) (wi (by omega) (by omega)) ⟨⟨k, b.take (b.length - 1), rfl, by rw [List.length_take]; omega, by omega, by omega, by omega, he⟩, by rw [q0f, q0f, List.length_take]; omega⟩)
      rw [Nat.zero_add] at sl
      exact sl
  · rw [q0f] at g
    exact List.eq_nil_of_length_eq_zero (by omega)
end Go.Sim.YtifjflhnfjhijaaGreatDoor
