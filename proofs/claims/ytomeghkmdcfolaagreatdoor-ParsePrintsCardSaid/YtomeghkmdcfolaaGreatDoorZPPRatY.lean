/- What is proved: what the functions of numbers compute (the program's: right, size, gcd, made, products, quotients), in words of the printed statements. -/
import Derived.Test.YtomeghkmdcfolaaGreatDoorZPPWF3
import Derived.Test.YtomeghkmdcfolaaGreatDoorZPPBig
import Derived.Test.YtomeghkmdcfolaaGreatDoorZPPPureK
import Derived.Test.YtomeghkmdcfolaaGreatDoorZPPDecV
import Derived.Test.YtomeghkmdcfolaaGreatDoorZPPWR

namespace Go.Sim.YtomeghkmdcfolaaGreatDoor
open Go.RowKit Go.Proofs Go.Proofs.Tryz
abbrev toR (r : (Int × Int) × Int) : GRat × Int := (⟨r.1.1, r.1.2⟩, r.2)
def GRat.inI (a : GRat) : Prop := Sim.inI a.N /\ Sim.inI a.D
def GRat.right (a : GRat) : Bool := rightS a.N a.D
theorem GRat.right_spec {a : GRat} : a.right = true ↔ 1 <= a.D /\ a.N ≠ -9223372036854775808 /\ Nat.gcd a.N.natAbs a.D.natAbs = 1 := rightS_spec
theorem shr32' (a : Nat) : Int.fdiv (a : Int) (2 ^ 32) = ((a / 4294967296 : Nat) : Int) := by rw [shrC]
theorem mul64_ev (a b : Nat) (ha : a < 18446744073709551616) (hb : b < 18446744073709551616) : Ev_math_bits_Mul64 (a : Int) (b : Int) (((a * b / 18446744073709551616 : Nat) : Int), ((a * b % 18446744073709551616 : Nat) : Int)) := by
 obtain ⟨x0, hx0⟩ : ∃ x0, x0 = a % 4294967296 := ⟨_, rfl⟩
 obtain ⟨x1, hx1⟩ : ∃ x1, x1 = a / 4294967296 := ⟨_, rfl⟩
 obtain ⟨y0, hy0⟩ : ∃ y0, y0 = b % 4294967296 := ⟨_, rfl⟩
 obtain ⟨y1, hy1⟩ : ∃ y1, y1 = b / 4294967296 := ⟨_, rfl⟩
 have b00 : x0 * y0 <= 4294967295 * 4294967295 := Nat.mul_le_mul (by omega) (by omega)
 have b10 : x1 * y0 <= 4294967295 * 4294967295 := Nat.mul_le_mul (by omega) (by omega)
 have b01 : x0 * y1 <= 4294967295 * 4294967295 := Nat.mul_le_mul (by omega) (by omega)
 have b11 : x1 * y1 <= 4294967295 * 4294967295 := Nat.mul_le_mul (by omega) (by omega)
 obtain ⟨w0, hw0⟩ : ∃ w0, w0 = x0 * y0 := ⟨_, rfl⟩
 obtain ⟨t, ht⟩ : ∃ t, t = x1 * y0 + w0 / 4294967296 := ⟨_, rfl⟩
 obtain ⟨w1, hw1⟩ : ∃ w1, w1 = t % 4294967296 + x0 * y1 := ⟨_, rfl⟩
 have hres := mul64_ok (a := a) (b := b) (x0 := x0) (x1 := x1) (y0 := y0) (y1 := y1) (by omega) (by omega) hw0 ht hw1
 refine walk_math_bits_Mul64 ?_
 unfold W_math_bits_Mul64
 refine Let.as (x0 : Int) (by rw [and32 ha, hx0]) (Let.as (x1 : Int) (by rw [shr32', hx1]) (Let.as (y0 : Int) (by rw [and32 hb, hy0]) (Let.as (y1 : Int) (by rw [shr32', hy1]) ?_)))
 refine Let.as (w0 : Int) (by rw [← Int.natCast_mul, wu (by omega) (by omega), hw0]) (Let.as ((x1 * y0 : Nat) : Int) (by rw [← Int.natCast_mul, wu (by omega) (by omega)]) (Let.as _ (shr32' w0) (Let.as (t : Int) (by rw [wu (by omega) (by omega)]; omega) ?_)))
 refine Let.as ((t % 4294967296 : Nat) : Int) (and32 (by omega)) (Let.as _ (shr32' t) (Let.as ((x0 * y1 : Nat) : Int) (by rw [← Int.natCast_mul, wu (by omega) (by omega)]) (Let.as (w1 : Int) (by rw [wu (by omega) (by omega)]; omega) ?_)))
 refine Let.as ((x1 * y1 : Nat) : Int) (by rw [← Int.natCast_mul, wu (by omega) (by omega)]) (Let.as ((x1 * y1 + t / 4294967296 : Nat) : Int) (by rw [wu (by omega) (by omega)]; omega) (Let.as _ (shr32' w1) (Let.as ((a * b / 18446744073709551616 : Nat) : Int) (by rw [← hres, wu (by omega) (by omega)]; omega) ?_)))
 exact Let.as _ (by rw [← Int.natCast_mul, wuN]) rfl
theorem wuM (n : Int) : IntKind.u64.wrap n = n % 18446744073709551616 := by simp only [IntKind.wrap, IntKind.bits, IntKind.signed, Bool.false_and, Bool.false_eq_true, if_false]; omega
theorem rsize_ev {n : Int} (h : Sim.inI n) : Ev_rat_size n ((n.natAbs : Nat) : Int) := by
 unfold Sim.inI at h
 refine walk_rat_size ?_
 unfold W_rat_size
 refine Br.d (fun a => Let.as (n + 18446744073709551616) (by rw [wuM]; omega) (Let.as ((n.natAbs : Nat) : Int) (by rw [wuM]; omega) rfl)) (fun a => Let.as ((n.natAbs : Nat) : Int) (by rw [wuM]; omega) rfl)
theorem gcd_ev (a b : Nat) : Ev_rat_gcd (a : Int) (b : Int) ((Nat.gcd a b : Nat) : Int) := by
 refine walk_rat_gcd ?_
 unfold W_rat_gcd
 refine ⟨fun x y => ∃ m n : Nat, x = (m : Int) /\ y = (n : Int) /\ Nat.gcd m n = Nat.gcd a b, fun _ y => y.toNat, ⟨a, b, rfl, rfl, rfl⟩, ?_⟩
 rintro _ _ ⟨m, n, rfl, rfl, hg⟩
 refine Br.d (fun h => ⟨by omega, Let.as ((m % n : Nat) : Int) rfl ⟨⟨n, m % n, rfl, rfl, by rw [← hg, Nat.gcd_comm n, ← Nat.gcd_rec, Nat.gcd_comm]⟩, ?_⟩⟩) (fun h => ?_)
 ·have := Nat.mod_lt m (show n > 0 by omega)
  simp only [Int.toNat_natCast]; exact this
 ·have : n = 0 := by omega
  subst this
  rw [Nat.gcd_zero_right] at hg
  rw [← hg]
theorem tdivN (a b : Nat) : Int.tdiv (a : Int) (b : Int) = ((a / b : Nat) : Int) := rfl
theorem right_ev {a : GRat} (h : a.inI) : Ev_rat_Right a a.right := by
 have hN := h.1
 have hD := h.2
 refine walk_rat_Right ?_
 unfold W_rat_Right
 unfold GRat.right rightS
 refine Br.d (fun c => Br.d (fun d => Call.mk (rsize_ev hN) (Call.mk (rsize_ev hD) (Call.mk (gcd_ev _ _) ?_))) (fun d => ?_)) (fun c => ?_)
 ·show _ = _
  rw [decide_eq_true (show 1 <= a.D from c), decide_eq_true (show a.N ≠ -9223372036854775808 by omega)]
  simp only [Bool.true_and]
  by_cases e : Nat.gcd a.N.natAbs a.D.natAbs = 1
  ·rw [e]; rfl
  ·rw [beq_eq_false_iff_ne.2 e, beq_eq_false_iff_ne]; omega
 ·unfold Sim.inI at hN
  rw [decide_eq_false (show ¬ a.N ≠ -9223372036854775808 by omega)]; simp
 ·rw [decide_eq_false (show ¬ 1 <= a.D from c)]; simp
theorem made_ev (s : Bool) (n d : Nat) (hn : n < 18446744073709551616) (hd : d < 18446744073709551616) (hd0 : d ≠ 0) : Ev_rat_made s (n : Int) (d : Int) (toR (madeS s n d)) := by
 have hg : 0 < Nat.gcd n d := Nat.gcd_pos_of_pos_right _ (by omega)
 have h1 : n / Nat.gcd n d <= n := Nat.div_le_self _ _
 have h2 : d / Nat.gcd n d <= d := Nat.div_le_self _ _
 refine walk_rat_made ?_
 unfold W_rat_made
 refine Call.mk (gcd_ev n d) ⟨by omega, Let.as _ (by rw [tdivN, wu (Int.natCast_nonneg _) (by omega)]) ⟨by omega, Let.as _ (by rw [tdivN, wu (Int.natCast_nonneg _) (by omega)]) ?_⟩⟩
 unfold madeS
 generalize n / Nat.gcd n d = x at h1 ⊢
 generalize d / Nat.gcd n d = y at h2 ⊢
 refine Br.d (fun c => ?_) (fun c => Br.d (fun e => ?_) (fun e => ?_))
 ·rw [if_neg (by omega)]
 ·rw [if_neg (by omega)]
 ·rw [if_pos (by omega)]
  cases s with
  | true => exact Br.t rfl (Let.as (x : Int) (wi (by omega) (by omega)) (Let.as (-(x : Int)) (by rw [wi (by omega) (by omega)]; omega) (Let.as (y : Int) (wi (by omega) (by omega)) rfl)))
  | false => exact Br.f rfl (Let.as (x : Int) (wi (by omega) (by omega)) (Let.as (y : Int) (wi (by omega) (by omega)) rfl))
end Go.Sim.YtomeghkmdcfolaaGreatDoor

/- What is proved: rat.Read yields something for every text (given what strings and strconv yield). -/
namespace Go.Sim.YtomeghkmdcfolaaGreatDoor
open Go.RowKit Go.Proofs Go.Proofs.Tryz
abbrev tens : ByteArray := ByteArray.mk #[48, 49, 50, 51, 52, 53, 54, 55, 56, 57]
def zeroB (c : Int) : Bool := c == 48
structure StrOk : Prop where
 t10 : ∀ s : ByteArray, s.size <= 9223372036854775807 -> Ev_strings_TrimLeft s tens (bs ((tl s 0).drop (span digitB (tl s 0))))
 t0 : ∀ s : ByteArray, s.size <= 9223372036854775807 -> Ev_strings_TrimLeft s (ByteArray.mk #[48]) (bs ((tl s 0).drop (span zeroB (tl s 0))))
 atoi : ∀ l : List UInt8, 1 <= l.length -> l.length <= 2 -> span digitB l = l.length -> ∃ n : Int, Ev_strconv_Atoi (bs l) (n, false) /\ 0 <= n /\ n <= 99
 pu : ∀ s : ByteArray, s.size <= 20000 -> ∃ (n : Nat) (e : Bool), n < 18446744073709551616 /\ Ev_strconv_ParseUint s 10 64 ((n : Int), e)
theorem bs_tl (s : ByteArray) : bs (tl s 0) = s := by
 unfold bs tl; rw [List.drop_zero]
theorem tl_bs (l : List UInt8) : tl (bs l) 0 = l := by unfold bs tl; rfl
theorem bs_nil {l : List UInt8} : ((bs l).toList == (ByteArray.mk #[]).toList) = decide (l = []) := by
 by_cases h : l = []
 ·subst h; rw [decide_eq_true rfl]; exact beq_str.2 rfl
 ·rw [decide_eq_false h]
  apply Bool.eq_false_iff.2
  intro e
  have := beq_str.1 e
  apply h
  have h2 := congrArg (fun x : ByteArray => x.data.toList) this
  simpa [bs] using h2
theorem digits_ev (h : StrOk) {l : List UInt8} (hl : l.length <= 9223372036854775807) : Ev_rat_digits (bs l) (bs (l.take (span digitB l)), bs (l.drop (span digitB l))) := by
 refine walk_rat_digits ?_
 unfold W_rat_digits
 have h1 := h.t10 (bs l) (by rw [bs_size]; exact hl)
 rw [tl_bs] at h1
 have h2 := span_le digitB l
 refine Call.mk h1 (Let.as ((span digitB l : Nat) : Int) (by rw [bs_size, bs_size, List.length_drop, wi (by omega) (by omega)]; omega) ?_)
 have h3 : SlS (bs l) ((0 : Nat) : Int) ((0 + span digitB l : Nat) : Int) (fun x5 => (x5, bs (l.drop (span digitB l))) = (bs (l.take (span digitB l)), bs (l.drop (span digitB l)))) :=
  SlS.tl (by rw [bs_size]; omega) (by rw [tl_bs])
 rw [Nat.zero_add] at h3
 exact h3
theorem dot_yes {l : List UInt8} (h : (decide (1 <= l.length) && ((bs (l.take 1)).toList == (ByteArray.mk #[46]).toList)) = true) : peek l 0 = 46 := by
 simp only [Bool.and_eq_true] at h
 have e := beq_str.1 h.2
 cases l with
 | nil => simp at h
 | cons b l =>
  have h2 := congrArg (fun x : ByteArray => x.data.toList) e
  have h3 : b = 46 := by simpa [bs] using h2
  rw [h3]; rfl
theorem dot_no {l : List UInt8} (h : (decide (1 <= l.length) && ((bs (l.take 1)).toList == (ByteArray.mk #[46]).toList)) = false) : peek l 0 ≠ 46 := by
 intro hp
 cases l with
 | nil => simp [peek] at hp
 | cons b l =>
  have hb : (b.toNat : Int) = 46 := by simpa [peek] using hp
  have h3 : b = 46 := UInt8.toNat_inj.1 (by show b.toNat = 46; omega)
  rw [h3] at h
  rw [Bool.and_eq_false_iff] at h
  rcases h with h | h
  ·simp at h
  ·rw [show bs (List.take 1 ((46 : UInt8) :: l)) = ByteArray.mk #[46] from rfl] at h
   simp at h
theorem cut_ev (l : List UInt8) (hl : l.length <= 9223372036854775807) : ∃ (r : List UInt8) (b : Bool), r.length <= l.length /\ Ev_strings_CutPrefix (bs l) (ByteArray.mk #[46]) (bs r, b) /\ (b = true -> peek l 0 = 46 /\ l.drop 1 = r) /\ (b = false -> peek l 0 ≠ 46) := by
 have hp : Ev_internal_stringslite_HasPrefix (bs l) (ByteArray.mk #[46]) (decide (1 <= l.length) && ((bs (l.take 1)).toList == (ByteArray.mk #[46]).toList)) := by
  refine walk_internal_stringslite_HasPrefix ?_
  unfold W_internal_stringslite_HasPrefix
  have e1 : (ByteArray.mk #[46]).size = 1 := rfl
  rw [bs_size, e1]
  refine Br.d (fun h => ?_) (fun h => ?_)
  ·have h1 : 1 <= l.length := by omega
   rw [decide_eq_true h1, Bool.true_and]
   exact SlS.tl (s := bs l) (p := 0) (n := 1) (by rw [bs_size]; omega) (by rw [tl_bs])
  ·rw [decide_eq_false (by omega), Bool.false_and]
 cases hb : (decide (1 <= l.length) && ((bs (l.take 1)).toList == (ByteArray.mk #[46]).toList)) with
 | false =>
  rw [hb] at hp
  refine ⟨l, false, Nat.le_refl _, walk_strings_CutPrefix ?_, fun h => by simp at h, fun _ => dot_no hb⟩
  unfold W_strings_CutPrefix
  refine Call.mk (walk_internal_stringslite_CutPrefix (r := (bs l, false)) ?_) rfl
  unfold W_internal_stringslite_CutPrefix
  exact Call.mk hp (Br.t rfl rfl)
 | true =>
  rw [hb] at hp
  have h1 : 1 <= l.length := by simp only [Bool.and_eq_true, decide_eq_true_eq] at hb; exact hb.1
  refine ⟨l.drop 1, true, by rw [List.length_drop]; omega, walk_strings_CutPrefix ?_, fun _ => ⟨dot_yes hb, rfl⟩, fun h => by simp at h⟩
  unfold W_strings_CutPrefix
  refine Call.mk (walk_internal_stringslite_CutPrefix (r := (bs (l.drop 1), true)) ?_) rfl
  unfold W_internal_stringslite_CutPrefix
  refine Call.mk hp (Br.f rfl ?_)
  have e : ((bs l).size : Int) = ((1 + (l.length - 1) : Nat) : Int) := by rw [bs_size]; omega
  rw [e]
  refine SlS.tl (s := bs l) (p := 1) (n := l.length - 1) (by rw [bs_size]; omega) ?_
  have : tl (bs l) 1 = l.drop 1 := by rw [← tl_drop (bs l) 0 1, tl_bs]
  rw [this, List.take_of_length_le (by rw [List.length_drop]; exact Nat.le_refl _)]
theorem SlS_from {l : List UInt8} {p : Nat} {k : ByteArray -> Prop} (h : p <= l.length) (hk : k (bs (l.drop p))) : SlS (bs l) (p : Int) ((bs l).size : Int) k := by
 have e : ((bs l).size : Int) = ((p + (l.length - p) : Nat) : Int) := by rw [bs_size]; omega
 rw [e]
 refine SlS.tl (s := bs l) (by rw [bs_size]; omega) ?_
 have : tl (bs l) p = l.drop p := by
  have := tl_drop (bs l) 0 p
  rw [tl_bs, Nat.zero_add] at this; exact this.symm
 rw [this, List.take_of_length_le (by rw [List.length_drop]; exact Nat.le_refl _)]
 exact hk
def shortL (y : Int) : List Int -> Int -> List Int
 | [], _ => []
 | c :: t, r =>
  let v := IntKind.u8.wrap (IntKind.u8.wrap (IntKind.u8.wrap (r * 10) + c) - 48)
  IntKind.u8.wrap (48 + IntKind.u8.wrap (Int.tdiv v y)) :: shortL y t (Int.tmod v y)
theorem shortL_len (y : Int) : ∀ (l : List Int) (r : Int), (shortL y l r).length = l.length
 | [], _ => rfl
 | c :: t, r => by unfold shortL; simp [shortL_len y t]
theorem short_ev (l : List Int) (y : Int) (hy : y ≠ 0) (hl : l.length <= 20000) : Ev_rat_short l y (shortL y l 0) := by
 refine walk_rat_short ?_
 unfold W_rat_short
 refine ⟨by omega, by omega, by omega, Let.as (List.replicate l.length 0) (by rw [Int.toNat_natCast]) ?_⟩
 refine ⟨fun out rest i => ∃ j : Nat, i = (j : Int) /\ j <= l.length /\ out.length = l.length /\ out.take j ++ shortL y (l.drop j) rest = shortL y l 0, fun _ _ i => l.length - i.toNat, ⟨0, rfl, Nat.zero_le _, by simp, by simp⟩, ?_⟩
 rintro out rest _ ⟨j, rfl, hj, ho, he⟩
 refine Br.d (fun h => ?_) (fun h => ?_)
 ·have hj1 : j < l.length := by omega
  have hx : l[j]? = some l[j] := List.getElem?_eq_getElem hj1
  have hz : out[j]? = some (out[j]'(by omega)) := List.getElem?_eq_getElem (by omega)
  refine ⟨by omega, l[j], by rw [Int.toNat_natCast]; exact hx, ?_⟩
  refine Let.it (Let.it (Let.it ⟨hy, Let.it (Let.it ⟨hy, Let.it ⟨by omega, _, by rw [Int.toNat_natCast]; exact hz, Let.as ((j + 1 : Nat) : Int) (wi1 (by omega)) ⟨⟨j + 1, rfl, hj1, by simp [ho], ?_⟩, ?_⟩⟩⟩)⟩))
  ·rw [← he, Int.toNat_natCast, List.drop_eq_getElem_cons hj1]
   conv => rhs; unfold shortL
   rw [List.take_set]
   have e2 : out.take (j + 1) = out.take j ++ [out[j]'(by omega)] := by rw [List.take_add_one, hz]; rfl
   rw [e2, List.set_append_right _ _ (by rw [List.length_take]; omega)]
   rw [List.length_take, show j - min j out.length = 0 by omega, List.set_cons_zero, List.append_assoc]
   rfl
  ·show l.length - ((j + 1 : Nat) : Int).toNat < l.length - ((j : Nat) : Int).toNat
   rw [Int.toNat_natCast, Int.toNat_natCast]; omega
 ·have : j = l.length := by omega
  subst this
  rw [List.drop_of_length_le (Nat.le_refl _), List.take_of_length_le (by omega)] at he
  show out = _
  rw [← he]; simp [shortL]
def stripF (y : Int) : Nat -> List Int -> Nat × List Int
 | 0, l => (0, l)
 | k + 1, l => if Int.tmod (IntKind.u8.wrap ((l[l.length - 1]?).getD 0 - 48)) y = 0 then stripF y k (shortL y l 0) else (k + 1, l)
theorem stripF_le (y : Int) : ∀ (k : Nat) (l : List Int), (stripF y k l).1 <= k /\ (stripF y k l).2.length = l.length
 | 0, l => ⟨Nat.le_refl _, rfl⟩
 | k + 1, l => by
  unfold stripF
  split
  ·have := stripF_le y k (shortL y l 0)
   rw [shortL_len] at this
   exact ⟨by omega, this.2⟩
  ·exact ⟨Nat.le_refl _, rfl⟩
theorem strip_ev {y : Int} (hy : y ≠ 0) {k0 : Nat} {l0 : List Int} (hl0 : 1 <= l0.length) (hl1 : l0.length <= 20000) (hk0 : k0 <= 100000) {k : Int -> List Int -> Prop} (hk : k ((stripF y k0 l0).1 : Int) (stripF y k0 l0).2) :
    Join2 (fun j54 => Loop2 (k0 : Int) l0 (fun (x75 : Int) (x76 : List Int) next77 =>
      Br (decide (x75 > (0 : Int))) (
        Let (IntKind.i64.wrap (((x76.length : Nat) : Int) - (1 : Int))) fun x86 =>
        At x76 x86 fun x88 =>
        Let (IntKind.u8.wrap (x88 - (48 : Int))) fun x90 =>
        Let (Int.tmod x90 y) fun x91 =>
        Br (x91 == (0 : Int)) (
          Call (Ev_rat_short x76 y) fun x92 =>
          Let (IntKind.i64.wrap (x75 - (1 : Int))) fun x94 =>
          next77 x94 x92) (
          j54 x75 x76)) (
        j54 x75 x76))) k := by
  refine ⟨fun a b => a = ((stripF y k0 l0).1 : Int) /\ b = (stripF y k0 l0).2, ?_, fun a b hab => by rw [hab.1, hab.2]; exact hk⟩
  refine ⟨fun a b => ∃ j : Nat, a = (j : Int) /\ j <= k0 /\ b.length = l0.length /\ stripF y j b = stripF y k0 l0, fun a _ => a.toNat, ⟨k0, rfl, Nat.le_refl _, rfl, rfl⟩, ?_⟩
  rintro _ b ⟨j, rfl, hj, hb, he⟩
  refine Br.d (fun h => ?_) (fun h => ?_)
  · obtain ⟨i, rfl⟩ : ∃ i, j = i + 1 := ⟨j - 1, by omega⟩
    have hx : b[b.length - 1]? = some (b[b.length - 1]'(by omega)) := List.getElem?_eq_getElem (by omega)
    refine Let.as ((b.length - 1 : Nat) : Int) (by rw [wi (by omega) (by omega)]; omega) ⟨by omega, _, by rw [Int.toNat_natCast]; exact hx, Let.it (Let.it ?_)⟩
    refine Br.e (fun h1 => ?_) (fun h1 => ?_)
    · rw [stripF, if_pos (by rw [hx]; exact h1)] at he
      refine Call.mk (short_ev b y hy (by omega)) (Let.as ((i : Nat) : Int) (by rw [wi (by omega) (by omega)]; omega) ⟨⟨i, rfl, by omega, by rw [shortL_len]; exact hb, he⟩, ?_⟩)
      show ((i : Nat) : Int).toNat < ((i + 1 : Nat) : Int).toNat
      rw [Int.toNat_natCast, Int.toNat_natCast]; omega
    · rw [stripF, if_neg (by rw [hx]; exact h1)] at he
      rw [← he]; exact ⟨rfl, rfl⟩
  · have : j = 0 := by omega
    subst this
    rw [← he]; exact ⟨rfl, rfl⟩
end Go.Sim.YtomeghkmdcfolaaGreatDoor

/- What is proved: rat.Read yields something for every text (given what strings and strconv yield). -/
namespace Go.Sim.YtomeghkmdcfolaaGreatDoor
open Go.RowKit Go.Proofs Go.Proofs.Tryz
def mulF : Nat -> Nat -> Option Nat
 | 0, n => some n
 | e + 1, n => if 0 < n * 10 / 18446744073709551616 then none else mulF e (n * 10 % 18446744073709551616)
def tailR (two five : Nat) (e : Int) (n : Nat) : GRat × Int :=
 if 62 < two then (GRat.zero, 3)
 else if 27 < five then (GRat.zero, 3)
 else match mulF e.toNat n with
  | none => (GRat.zero, 3)
  | some m => if 64 - blen (5 ^ five) < two then (GRat.zero, 3) else toR (madeS false m (5 ^ five * 2 ^ two))
theorem pow5 {k : Nat} (h : k <= 27) : 5 ^ k < 18446744073709551616 /\ 0 < 5 ^ k := by
 have h1 : 5 ^ k <= 5 ^ 27 := Nat.pow_le_pow_right (by decide) h
 exact ⟨Nat.lt_of_le_of_lt h1 (by decide), Nat.pow_pos (by decide)⟩
def readD (k0 : Nat) (l : List UInt8) : List UInt8 := (tl (strOfNums (stripF 5 k0 (stripF 2 k0 (bytesI (bs l))).2).2) 0).drop (span zeroB (tl (strOfNums (stripF 5 k0 (stripF 2 k0 (bytesI (bs l))).2).2) 0))
theorem readD_len (k0 : Nat) (l : List UInt8) : (readD k0 l).length <= l.length := by
 have s2 := (stripF_le 2 k0 (bytesI (bs l))).2
 have s5 := (stripF_le 5 k0 (stripF 2 k0 (bytesI (bs l))).2).2
 unfold readD
 rw [List.length_drop, tl_len, strOfNums_size, s5, s2, bytesI_len, bs_size]; omega
theorem scaled_evX (ht0 : ∀ s : ByteArray, s.size <= 9223372036854775807 -> Ev_strings_TrimLeft s (ByteArray.mk #[48]) (bs ((tl s 0).drop (span zeroB (tl s 0))))) {l : List UInt8} (h1 : 1 <= l.length) (h2 : l.length <= 200) {e : Int} (he : -1000 <= e /\ e <= 1000) {k0 n : Nat} {er : Bool} (hk0 : k0 = (-e).toNat)
    (hn : n < 18446744073709551616) (hpu : Ev_strconv_ParseUint (bs (readD k0 l)) 10 64 ((n : Int), er)) :
    Ev_rat_scaled (bs l) e (if er = true then (GRat.zero, 3) else tailR (stripF 2 k0 (bytesI (bs l))).1 (stripF 5 k0 (stripF 2 k0 (bytesI (bs l))).2).1 e n) := by
  obtain ⟨l0, hl0⟩ : ∃ l0, l0 = bytesI (bs l) := ⟨_, rfl⟩
  unfold readD at hpu
  rw [← hl0] at hpu ⊢
  have len0 : l0.length = l.length := by rw [hl0, bytesI_len, bs_size]
  have s2 := stripF_le 2 k0 l0
  obtain ⟨two, htwo⟩ : ∃ two, two = (stripF 2 k0 l0).1 := ⟨_, rfl⟩
  obtain ⟨l1, hl1⟩ : ∃ l1, l1 = (stripF 2 k0 l0).2 := ⟨_, rfl⟩
  rw [← htwo, ← hl1] at s2
  rw [← hl1] at hpu
  rw [← htwo, ← hl1]
  have s5 := stripF_le 5 k0 l1
  obtain ⟨five, hfive⟩ : ∃ five, five = (stripF 5 k0 l1).1 := ⟨_, rfl⟩
  obtain ⟨l2, hl2⟩ : ∃ l2, l2 = (stripF 5 k0 l1).2 := ⟨_, rfl⟩
  rw [← hfive, ← hl2] at s5
  rw [← hl2] at hpu
  rw [← hfive]
  have size2 : (strOfNums l2).size <= 200 := by rw [strOfNums_size]; omega
  have t0 := ht0 (strOfNums l2) (by omega)
  refine walk_rat_scaled ?_
  unfold W_rat_scaled
  have w1 : IntKind.i64.wrap (0 - e) = 0 - e := wi (by omega) (by omega)
  have w2 : opMaxI (0 - e) 0 = ((k0 : Nat) : Int) := by unfold opMaxI; rw [hk0]; split <;> omega
  refine Let.as _ w1 (Let.as _ w2 (Let.as _ w1 (Let.as _ w2 (Let.as l0 hl0.symm ?_))))
  refine strip_ev (y := 2) (by decide) (by omega) (by omega) (by omega) ?_
  rw [← htwo, ← hl1]
  refine strip_ev (y := 5) (by decide) (by omega) (by omega) (by omega) ?_
  rw [← hfive, ← hl2]
  refine Let.it (Call.mk t0 (Call.mk hpu ?_))
  cases er with
  | true => exact Br.t rfl rfl
  | false =>
    refine Br.f rfl ?_
    show Br _ ((GRat.zero, (3 : Int)) = tailR two five e n) _
    refine Br.d (fun g1 => ?_) (fun g1 => Br.d (fun g2 => ?_) (fun g2 => ?_))
    · unfold tailR; rw [if_pos (by omega)]
    · show (GRat.zero, (3 : Int)) = tailR two five e n
      unfold tailR; rw [if_neg (by omega), if_pos (by omega)]
    have hr : tailR two five e n = match mulF e.toNat n with
        | none => (GRat.zero, 3)
        | some m => if 64 - blen (5 ^ five) < two then (GRat.zero, 3) else toR (madeS false m (5 ^ five * 2 ^ two)) := by
      unfold tailR; rw [if_neg (by omega), if_neg (by omega)]
    show Loop2 e (n : Int) _
    rw [show (if false = true then ((GRat.zero, 3) : GRat × Int) else tailR two five e n) = tailR two five e n from rfl, hr]
    refine ⟨fun a b => a <= 1000 /\ ∃ m : Nat, b = (m : Int) /\ m < 18446744073709551616 /\ mulF a.toNat m = mulF e.toNat n, fun a _ => a.toNat, ⟨he.2, n, rfl, hn, rfl⟩, ?_⟩
    rintro a _ ⟨ha, m, rfl, hm, hq⟩
    refine Br.d (fun g3 => ?_) (fun g3 => ?_)
    · obtain ⟨i, hi⟩ : ∃ i, a.toNat = i + 1 := ⟨a.toNat - 1, by omega⟩
      rw [hi, mulF] at hq
      refine Call.mk (mul64_ev m 10 hm (by decide)) (Br.d (fun g4 => ?_) (fun g4 => ?_))
      · have g4' : 0 < m * 10 / 18446744073709551616 := by have : ((m * 10 / 18446744073709551616 : Nat) : Int) > 0 := g4; omega
        rw [if_pos g4'] at hq
        rw [← hq]
      · have g4' : ¬ 0 < m * 10 / 18446744073709551616 := by have : ¬ ((m * 10 / 18446744073709551616 : Nat) : Int) > 0 := g4; omega
        rw [if_neg g4'] at hq
        refine Let.as (a - 1) (wi (by omega) (by omega)) ⟨⟨by omega, _, rfl, Nat.mod_lt _ (by decide), ?_⟩, by show (a - 1).toNat < a.toNat; omega⟩
        rw [show (a - 1).toNat = i by omega]; exact hq
    · rw [show a.toNat = 0 by omega, mulF] at hq
      rw [← hq]
      have p5 := pow5 (k := five) (by omega)
      refine ⟨fun a b => ∃ j : Nat, a = (j : Int) /\ j <= five /\ b = ((5 ^ (five - j) : Nat) : Int), fun a _ => a.toNat, ⟨five, rfl, Nat.le_refl _, by rw [Nat.sub_self]; rfl⟩, ?_⟩
      rintro _ _ ⟨j, rfl, hj, rfl⟩
      refine Br.d (fun g4 => ?_) (fun g4 => ?_)
      · obtain ⟨i, rfl⟩ : ∃ i, j = i + 1 := ⟨j - 1, by omega⟩
        have q5 := pow5 (k := five - i) (by omega)
        have e5 : 5 ^ (five - i) = 5 ^ (five - (i + 1)) * 5 := by rw [show five - i = five - (i + 1) + 1 by omega, Nat.pow_succ]
        refine Let.as ((5 ^ (five - i) : Nat) : Int) ?_ (Let.as ((i : Nat) : Int) (by rw [wi (by omega) (by omega)]; omega) ⟨⟨i, rfl, by omega, rfl⟩, ?_⟩)
        · rw [e5] at q5
          rw [e5, show ((5 ^ (five - (i + 1)) : Nat) : Int) * 5 = ((5 ^ (five - (i + 1)) * 5 : Nat) : Int) by rw [Int.natCast_mul]; rfl]
          exact wu (by omega) (by omega)
        · show ((i : Nat) : Int).toNat < ((i + 1 : Nat) : Int).toNat
          rw [Int.toNat_natCast, Int.toNat_natCast]; omega
      · have : j = 0 := by omega
        subst this
        rw [Nat.sub_zero]
        refine Call.mk (lz64_ev _ p5.1) (Br.d (fun g5 => ?_) (fun g5 => ?_))
        · show _ = (if 64 - blen (5 ^ five) < two then _ else _)
          rw [if_pos (by omega)]
        · show Nn _ _
          have g6 : ¬ 64 - blen (5 ^ five) < two := by omega
          have hb : 5 ^ five < 2 ^ blen (5 ^ five) := (blen_le _ _).1 (Nat.le_refl _)
          have hb64 : blen (5 ^ five) <= 64 := (blen_le _ _).2 p5.1
          have hlt : 5 ^ five * 2 ^ two < 18446744073709551616 := by
            have := Nat.mul_lt_mul_of_pos_right hb (Nat.two_pow_pos two)
            rw [← Nat.pow_add] at this
            exact Nat.lt_of_lt_of_le this (Nat.pow_le_pow_right (by decide) (by omega) : 2 ^ (blen (5 ^ five) + two) <= 2 ^ 64)
          refine ⟨by omega, Let.as ((5 ^ five * 2 ^ two : Nat) : Int) ?_ ?_⟩
          · rw [Int.toNat_natCast, Nat.min_eq_left (by omega), show ((5 ^ five : Nat) : Int) * 2 ^ two = ((5 ^ five * 2 ^ two : Nat) : Int) by rw [Int.natCast_mul, Int.natCast_pow]; rfl]
            exact wu (by omega) (by omega)
          · refine Call.mk (made_ev false m _ hm hlt (Nat.ne_of_gt (Nat.mul_pos p5.2 (Nat.two_pow_pos _)))) ?_
            show _ = (if 64 - blen (5 ^ five) < two then _ else _)
            rw [if_neg g6]
theorem scaled_ev (h : StrOk) {l : List UInt8} (h1 : 1 <= l.length) (h2 : l.length <= 200) {e : Int} (he : -1000 <= e /\ e <= 1000) : ∃ r, Ev_rat_scaled (bs l) e r := by
 obtain ⟨n, er, hn, hpu⟩ := h.pu (bs (readD (-e).toNat l)) (by rw [bs_size]; have := readD_len (-e).toNat l; omega)
 exact ⟨_, scaled_evX h.t0 h1 h2 he rfl hn hpu⟩
end Go.Sim.YtomeghkmdcfolaaGreatDoor
