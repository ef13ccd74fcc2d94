/- What is proved: a fraction's decimals, written in 18 places without the noughts behind, are those that long division yields. -/
import Derived.Lib.ItoaNum
import Derived.Lib.ItoaMem
import Derived.Lib.TrimByte
import Derived.Lib.Repeat
import Derived.Test.YtomeghkmdcfolaaGreatDoorZPPWE
import Derived.Test.YtomeghkmdcfolaaGreatDoorZPPPureK
import Derived.Lib.ItoaLen

namespace Go.Sim
def pd : Nat -> Nat -> List UInt8
 | 0, _ => []
 | w + 1, m => pd w (m / 10) ++ [UInt8.ofNat (48 + m % 10)]
theorem pd_len : ∀ w m, (pd w m).length = w
 | 0, _ => rfl
 | w + 1, m => by simp [pd, pd_len w]
theorem rep_front (w : Nat) : List.replicate (w + 1) (48 : UInt8) = 48 :: List.replicate w 48 := rfl
theorem pd_zero : ∀ w, pd w 0 = List.replicate w 48
 | 0 => rfl
 | w + 1 => by
  rw [pd, Nat.zero_div, pd_zero w, List.replicate_succ']; rfl
theorem pd_dec : ∀ (w u : Nat), u < 10 ^ (w + 1) -> Lib.nDigits u <= w + 1 /\ List.replicate (w + 1 - Lib.nDigits u) (48 : UInt8) ++ Lib.decDigits u = pd (w + 1) u
  | 0, u, h => by
    have h' : u < 10 := by simpa using h
    rw [Lib.nDigits_small h', Lib.decDigits, dif_pos h']
    refine ⟨by omega, ?_⟩
    simp [pd, Nat.mod_eq_of_lt h']
  | w + 1, u, h => by
    by_cases h10 : u < 10
    · rw [Lib.nDigits_small h10, Lib.decDigits, dif_pos h10, pd, Nat.div_eq_of_lt h10, pd_zero, Nat.mod_eq_of_lt h10]
      exact ⟨by omega, rfl⟩
    · have h2 : u / 10 < 10 ^ (w + 1) := by
        rw [Nat.pow_succ] at h
        exact Nat.div_lt_of_lt_mul (by omega)
      obtain ⟨e1, e2⟩ := pd_dec w (u / 10) h2
      rw [Lib.nDigits_big h10, Lib.decDigits, dif_neg h10, pd, ← e2]
      refine ⟨by omega, ?_⟩
      rw [show w + 1 + 1 - (Lib.nDigits (u / 10) + 1) = w + 1 - Lib.nDigits (u / 10) by omega, List.append_assoc]
theorem pd_head : ∀ (w d r : Nat), d < 10 -> r < 10 ^ w -> pd (w + 1) (d * 10 ^ w + r) = UInt8.ofNat (48 + d) :: pd w r
 | 0, d, r, hd, hr => by
  have : r = 0 := by simpa using hr
  subst this
  simp [pd, Nat.mod_eq_of_lt hd]
 | w + 1, d, r, hd, hr => by
  have e1 : (d * 10 ^ (w + 1) + r) / 10 = d * 10 ^ w + r / 10 := by
   rw [Nat.pow_succ, ← Nat.mul_assoc]; omega
  have e2 : (d * 10 ^ (w + 1) + r) % 10 = r % 10 := by
   rw [Nat.pow_succ, ← Nat.mul_assoc]; omega
  have e3 : r / 10 < 10 ^ w := by
   rw [Nat.pow_succ] at hr
   exact Nat.div_lt_of_lt_mul (by omega)
  rw [pd, e1, e2, pd_head w d (r / 10) hd e3, pd]; rfl
theorem trimB_cons (b c : UInt8) (l : List UInt8) : Lib.trimRightB (b :: l) c = if Lib.trimRightB l c = [] then (if b = c then [] else [b]) else b :: Lib.trimRightB l c := by
 unfold Lib.trimRightB
 rw [List.reverse_cons]
 have key : ∀ (m : List UInt8), (m ++ [b]).dropWhile (· == c) = if m.dropWhile (· == c) = [] then (if b = c then [] else [b]) else m.dropWhile (· == c) ++ [b] := by
  intro m
  induction m with
  | nil =>
   by_cases h : b = c
   ·simp [h]
   ·simp [h]
  | cons x m ih =>
   rw [List.cons_append]
   by_cases hx : x = c
   ·rw [List.dropWhile_cons_of_pos (by simp [hx]), List.dropWhile_cons_of_pos (by simp [hx]), ih]
   ·rw [List.dropWhile_cons_of_neg (by simp [hx]), List.dropWhile_cons_of_neg (by simp [hx]), if_neg (by simp)]; rfl
 rw [key]
 generalize l.reverse.dropWhile (· == c) = m
 cases m with
 | nil => simp only [if_true, List.reverse_nil]; split <;> rfl
 | cons x m => simp
theorem trimB_zero : ∀ w, Lib.trimRightB (List.replicate w 48) 48 = []
 | 0 => rfl
 | w + 1 => by rw [rep_front, trimB_cons, trimB_zero w]; rfl
def fr (D : Nat) : Nat -> Nat -> List UInt8
 | 0, _ => []
 | w + 1, rest => if rest = 0 then [] else UInt8.ofNat (48 + 10 * rest / D) :: fr D w (10 * rest % D)
theorem fr_len (D : Nat) : ∀ w rest, (fr D w rest).length <= w
 | 0, _ => Nat.le_refl _
 | w + 1, rest => by
  rw [fr]; split
  ·simp
  ·have := fr_len D w (10 * rest % D); simp; omega
theorem fr_trim (D : Nat) (hD : 0 < D) : ∀ (w rest : Nat), rest < D -> D ∣ rest * 10 ^ w -> Lib.trimRightB (pd w (rest * 10 ^ w / D)) 48 = fr D w rest /\ (rest ≠ 0 -> fr D w rest ≠ [])
 | 0, rest, hr, hd => by
  rw [Nat.pow_zero, Nat.mul_one] at hd
  have h0 : rest = 0 := by
   rcases Nat.eq_zero_or_pos rest with h | h
   ·exact h
   ·exact absurd (Nat.le_of_dvd h hd) (by omega)
  exact ⟨rfl, fun h => absurd h0 h⟩
 | w + 1, rest, hr, hd => by
  rcases Nat.eq_zero_or_pos rest with h0 | h0
  ·subst h0
   refine ⟨?_, fun h => absurd rfl h⟩
   rw [Nat.zero_mul, Nat.zero_div, pd_zero, trimB_zero, fr, if_pos rfl]
  ·have hlt : 10 * rest % D < D := Nat.mod_lt _ hD
   have hdm : D * (10 * rest / D) + 10 * rest % D = 10 * rest := Nat.div_add_mod _ _
   have e0 : rest * 10 ^ (w + 1) = D * (10 * rest / D * 10 ^ w) + 10 * rest % D * 10 ^ w := by
    rw [Nat.pow_succ, Nat.mul_comm (10 ^ w) 10, ← Nat.mul_assoc, Nat.mul_comm rest 10, ← Nat.mul_assoc, ← Nat.add_mul, hdm]
   have hd' : D ∣ 10 * rest % D * 10 ^ w := by
    rw [e0] at hd
    exact (Nat.dvd_add_right (Nat.dvd_mul_right _ _)).1 hd
   obtain ⟨i1, i2⟩ := fr_trim D hD w _ hlt hd'
   have hq : 10 * rest / D < 10 := Nat.div_lt_of_lt_mul (by rw [Nat.mul_comm D 10]; omega)
   have hv : 10 * rest % D * 10 ^ w / D < 10 ^ w := by
    refine Nat.div_lt_of_lt_mul ?_
    exact Nat.mul_lt_mul_of_pos_right hlt (Nat.pow_pos (by decide))
   have e1 : rest * 10 ^ (w + 1) / D = 10 * rest / D * 10 ^ w + 10 * rest % D * 10 ^ w / D := by
    rw [e0, Nat.mul_add_div hD]
   have hfr : fr D (w + 1) rest = UInt8.ofNat (48 + 10 * rest / D) :: fr D w (10 * rest % D) := by
    rw [fr, if_neg (Nat.ne_of_gt h0)]
   rw [e1, pd_head w _ _ hq hv, trimB_cons, i1, hfr]
   refine ⟨?_, fun _ => by simp⟩
   by_cases hz : 10 * rest % D = 0
   ·have hf : fr D w (10 * rest % D) = [] := by rw [hz]; cases w <;> simp [fr]
    rw [if_pos hf, hf, if_neg]
    intro h
    have hp : 0 < 10 * rest / D := by
     rcases Nat.eq_zero_or_pos (10 * rest / D) with h1 | h1
     ·rw [h1, hz] at hdm; omega
     ·exact h1
    have h3 : (UInt8.ofNat (48 + 10 * rest / D)).toNat = (48 : UInt8).toNat := by rw [h]
    rw [UInt8.toNat_ofNat'] at h3
    generalize 10 * rest / D = q at *
    have : (48 + q) % 2 ^ 8 = 48 + q := Nat.mod_eq_of_lt (by omega)
    rw [this] at h3
    have h4 : (48 : UInt8).toNat = 48 := rfl
    omega
   ·rw [if_neg (i2 hz)]
end Go.Sim

/- What is proved: texts as lists of bytes: what stands at places, and how many of the first are so. -/
namespace Go.Sim.YtomeghkmdcfolaaGreatDoor
open Go.RowKit Go.Proofs Go.Proofs.Tryz
def tl (s : ByteArray) (p : Nat) : List UInt8 := s.data.toList.drop p
theorem tl_len (s : ByteArray) (p : Nat) : (tl s p).length = s.size - p := by unfold tl; rw [List.length_drop]; rfl
theorem tl_drop (s : ByteArray) (p n : Nat) : (tl s p).drop n = tl s (p + n) := by unfold tl; rw [List.drop_drop]
theorem tl_get (s : ByteArray) (p n : Nat) : (tl s p)[n]? = s.data.toList[p + n]? := by unfold tl; rw [List.getElem?_drop]
theorem tl_nil {s : ByteArray} {p : Nat} (h : s.size <= p) : tl s p = [] := by
 apply List.eq_nil_of_length_eq_zero; rw [tl_len]; omega
theorem tl_cons {s : ByteArray} {p : Nat} (h : p < s.size) : ∃ b, s[p]? = some b /\ tl s p = b :: tl s (p + 1) := by
 have h' : p < s.data.toList.length := h
 refine ⟨s.data.toList[p], ?_, ?_⟩
 ·show (if hh : p < s.size then some s[p] else none) = _
  rw [dif_pos h]; rfl
 ·unfold tl; exact List.drop_eq_getElem_cons h'
theorem AtS.nat {s : ByteArray} {p : Nat} {b : UInt8} {k : Int -> Prop} (h : s[p]? = some b) (hk : k ((b.toNat : Nat) : Int)) : AtS s (p : Int) k := ⟨by omega, b, by rw [Int.toNat_natCast]; exact h, hk⟩
def span (f : Int -> Bool) : List UInt8 -> Nat
 | [] => 0
 | b :: l => if f (b.toNat : Int) = true then span f l + 1 else 0
theorem span_le (f : Int -> Bool) : ∀ l, span f l <= l.length
 | [] => Nat.le_refl _
 | b :: l => by unfold span; have := span_le f l; split <;> simp <;> omega
def peek (l : List UInt8) (n : Nat) : Int := match l[n]? with | some b => (b.toNat : Int) | none => 0
def digitB (c : Int) : Bool := decide (c >= 48) && decide (c <= 57)
def bs (l : List UInt8) : ByteArray := ⟨l.toArray⟩
theorem bs_size (l : List UInt8) : (bs l).size = l.length := by show l.toArray.size = _; simp
theorem extract_tl {s : ByteArray} {p n : Nat} : s.extract p (p + n) = bs ((tl s p).take n) := by
 apply ByteArray.ext
 rw [ByteArray.data_extract]
 unfold bs tl
 apply Array.toList_inj.1
 rw [Array.toList_extract, List.extract_eq_take_drop, show p + n - p = n from Nat.add_sub_cancel_left ..]
theorem SlS.tl {s : ByteArray} {p n : Nat} {k : ByteArray -> Prop} (h : p + n <= s.size) (hk : k (bs ((tl s p).take n))) : SlS s (p : Int) ((p + n : Nat) : Int) k := by
 refine ⟨by omega, by omega, by omega, ?_⟩
 rw [Int.toNat_natCast, Int.toNat_natCast, extract_tl]
 exact Let.as _ rfl hk
theorem peek_lt {s : ByteArray} {p n : Nat} (h : peek (tl s p) n ≠ 0) : p + n < s.size := by
 unfold peek at h
 cases hg : (tl s p)[n]? with
 | none => simp [hg] at h
 | some b =>
  have := (List.getElem?_eq_some_iff.1 hg).1
  rw [tl_len] at this; omega
theorem peek_drop (l : List UInt8) (a n : Nat) : peek (l.drop a) n = peek l (a + n) := by unfold peek; rw [List.getElem?_drop]
theorem peek_len {l : List UInt8} {n : Nat} (h : peek l n ≠ 0) : n < l.length := by
 unfold peek at h
 cases hg : l[n]? with
 | none => simp [hg] at h
 | some b => exact (List.getElem?_eq_some_iff.1 hg).1
end Go.Sim.YtomeghkmdcfolaaGreatDoor

/- What is proved: how the text of a tree is put together, and how long it is. -/
namespace Go.Sim.YtomeghkmdcfolaaGreatDoor
open Go.RowKit Go.Proofs Go.Proofs.Tryz
def lst (s : ByteArray) : List UInt8 := s.data.toList
theorem lst_app (a b : ByteArray) : lst (a ++ b) = lst a ++ lst b := by unfold lst; simp
theorem lst_bs (l : List UInt8) : lst (bs l) = l := by unfold lst bs; simp
theorem bs_lst (s : ByteArray) : bs (lst s) = s := by
 apply ByteArray.ext; unfold bs lst; simp
theorem bs_of {s : ByteArray} {l : List UInt8} (h : lst s = l) : s = bs l := by rw [← h, bs_lst]
def jtl (sep : List UInt8) : List (List UInt8) -> List UInt8
 | [] => []
 | x :: r => sep ++ (x ++ jtl sep r)
def jn (sep : List UInt8) : List (List UInt8) -> List UInt8
 | [] => []
 | x :: r => x ++ jtl sep r
theorem jtl_append (sep : List UInt8) : ∀ (xs ys : List (List UInt8)), jtl sep (xs ++ ys) = jtl sep xs ++ jtl sep ys
 | [], ys => rfl
 | x :: xs, ys => by simp only [List.cons_append, jtl, jtl_append sep xs ys, List.append_assoc]
theorem jn_snoc (sep : List UInt8) (xs : List (List UInt8)) (y : List UInt8) (h : xs ≠ []) : jn sep (xs ++ [y]) = jn sep xs ++ (sep ++ y) := by
 cases xs with
 | nil => exact absurd rfl h
 | cons x xs => simp only [List.cons_append, jn, jtl_append, jtl, List.append_nil, List.append_assoc]
theorem jn_nil_snoc (xs : List (List UInt8)) (y : List UInt8) : jn [] (xs ++ [y]) = jn [] xs ++ y := by
 cases xs with
 | nil => simp [jn, jtl]
 | cons x xs => simp only [List.cons_append, jn, jtl_append, jtl, List.append_nil, List.nil_append, List.append_assoc]
mutual
def eqB : GTree -> GTree -> Bool
 | ⟨k, n, a, N, M, f, q, ks⟩, u => sameB ⟨k, n, a, N, M, f, q, ks⟩ u && eqL ks u.Kids
def eqL : List GTree -> List GTree -> Bool
 | [], us => us.isEmpty
 | t :: ts, us => match us with
  | [] => false
  | u :: us => eqB t u && eqL ts us
end
theorem eqB_eq (t u : GTree) : eqB t u = (sameB t u && eqL t.Kids u.Kids) := by cases t; simp only [eqB]
theorem eqL_zip : ∀ ts us : List GTree, eqL ts us = (decide (ts.length = us.length) && (ts.zip us).all fun p => eqB p.1 p.2)
 | [], us => by cases us <;> simp [eqL]
 | t :: ts, [] => by simp [eqL]
 | t :: ts, u :: us => by
  rw [eqL]
  show (eqB t u && eqL ts us) = _
  rw [eqL_zip ts us]
  simp only [List.length_cons, Nat.succ_eq_add_one, Nat.add_right_cancel_iff, List.zip_cons_cons, List.all_cons]
  cases eqB t u <;> simp
def digL (a : GRat) : List UInt8 := Lib.itoa (Int.tdiv a.N a.D) ++ (if a.D = 1 then [] else 46 :: fr a.D.toNat 18 (Int.tmod a.N a.D).toNat)
def parB (t : GTree) : Bool := (decide (7 <= t.Kind) && decide (t.Kind <= 12)) || (decide (22 <= t.Kind) && decide (t.Kind <= 24))
def opL (t : GTree) (s : List UInt8) : List UInt8 := if parB t = true then 40 :: (s ++ [41]) else s
def szL (n : Int) : List UInt8 := if n = 0 then [] else 91 :: (Lib.itoa n ++ [93])
def powL (q : GRat) : List UInt8 := if q.D = 1 then Lib.itoa q.N else 40 :: (Lib.itoa q.N ++ ([32, 47, 32] ++ (Lib.itoa q.D ++ [41])))
def fnL (n : Int) : List UInt8 := if n = 9 then [115, 113, 114, 116] else if n = 10 then [101, 120, 112] else if n = 11 then [108, 111, 103] else if n = 12 then [115, 105, 110] else if n = 13 then [99, 111, 115] else [97, 116, 97, 110]
def gt (L : List (List UInt8)) (i : Nat) : List UInt8 := L.getD i []
def gk (t : GTree) (i : Nat) : GTree := t.Kids.getD i GTree.zero
def op (t : GTree) (L : List (List UInt8)) (i : Nat) : List UInt8 := opL (gk t i) (gt L i)
def lowT (t : GTree) (L : List (List UInt8)) : List UInt8 :=
 if t.Kind = 1 then digL t.Num
 else if t.Kind = 2 then jn [46] L
 else if t.Kind = 3 then lst t.Name ++ jn [] (L.map fun s => 91 :: (s ++ [93]))
 else if t.Kind = 4 then [100, 101, 114, 40] ++ (gt L 0 ++ [41])
 else if t.Kind = 5 then [116, 105, 109, 101]
 else if t.Kind = 6 then fnL t.N ++ (40 :: (gt L 0 ++ [41]))
 else if t.Kind = 7 then 45 :: op t L 0
 else if t.Kind = 8 then op t L 0 ++ ([32, 43, 32] ++ op t L 1)
 else if t.Kind = 9 then op t L 0 ++ ([32, 45, 32] ++ op t L 1)
 else if t.Kind = 10 \/ t.Kind = 22 then op t L 0 ++ ([32, 42, 32] ++ op t L 1)
 else if t.Kind = 11 \/ t.Kind = 23 then op t L 0 ++ ([32, 47, 32] ++ op t L 1)
 else if t.Kind = 12 then op t L 0 ++ (94 :: Lib.itoa t.N)
 else if t.Kind = 21 then lst t.Name
 else if t.Kind = 24 then op t L 0 ++ (94 :: powL t.Num)
 else [49]
def nodeT (t : GTree) (L : List (List UInt8)) : List UInt8 :=
 if t.Kind = 30 then jn [10] L
 else if t.Kind = 31 then [117, 110, 105, 116, 32] ++ (lst t.Name ++ (jn [] (L.map fun s => [32, 61, 32] ++ s) ++ [59]))
 else if t.Kind = 32 then (if t.N = 2 then [99, 111, 110, 110, 101, 99, 116, 111, 114, 32] else [109, 111, 100, 101, 108, 32]) ++ (lst t.Name ++ (10 :: (jn [] (L.map fun s => s ++ [10]) ++ [101, 110, 100, 59])))
 else if t.Kind = 33 then [112, 97, 114, 97, 109, 32] ++ (lst t.Name ++ (gt L 0 ++ ([32, 61, 32] ++ (gt L 1 ++ [59]))))
 else if t.Kind = 34 then (if t.Flag = true then [102, 108, 111, 119, 32] else [118, 97, 114, 32]) ++ (lst t.Name ++ (szL t.N ++ (gt L 0 ++ [59])))
 else if t.Kind = 35 then [112, 97, 114, 116, 32] ++ (lst t.Name ++ (szL t.N ++ ([58, 32] ++ (lst t.Alias ++ ((if L = [] then [] else 40 :: (jn [44, 32] L ++ [41])) ++ [59])))))
 else if t.Kind = 36 then lst t.Name ++ ([32, 61, 32] ++ gt L 0)
 else if t.Kind = 37 then [115, 116, 97, 114, 116, 32] ++ (gt L 0 ++ (if eqB (gk t 1) (gk t 2) = true then [32, 61, 32] ++ (gt L 1 ++ [59]) else [32, 105, 110, 32, 91] ++ (gt L 1 ++ ([44, 32] ++ (gt L 2 ++ [93, 59])))))
 else if t.Kind = 38 then [99, 111, 110, 110, 101, 99, 116, 40] ++ (gt L 0 ++ ([44, 32] ++ (gt L 1 ++ [41, 59])))
 else if t.Kind = 39 then gt L 0 ++ ([32, 61, 32] ++ (gt L 1 ++ [59]))
 else if t.Kind = 40 then [102, 111, 114, 32] ++ (lst t.Name ++ ([32, 105, 110, 32] ++ (Lib.itoa t.N ++ ([46, 46] ++ (Lib.itoa t.M ++ ([32, 100, 111, 10] ++ (jn [] (L.map fun s => s ++ [10]) ++ [101, 110, 100, 59])))))))
 else if t.Kind = 41 then jn [] (L.map fun s => [58, 32] ++ s)
 else lowT t L
mutual
def txt : GTree -> List UInt8
 | ⟨k, n, a, N, M, f, q, ks⟩ => nodeT ⟨k, n, a, N, M, f, q, ks⟩ (txtL ks)
def txtL : List GTree -> List (List UInt8)
 | [] => []
 | t :: ts => txt t :: txtL ts
end
theorem txtL_map : ∀ ts, txtL ts = ts.map txt
 | [] => rfl
 | t :: ts => by rw [txtL, txtL_map ts]; rfl
theorem txt_eq (t : GTree) : txt t = nodeT t (t.Kids.map txt) := by cases t; simp only [txt, txtL_map]
end Go.Sim.YtomeghkmdcfolaaGreatDoor
