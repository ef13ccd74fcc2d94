/- What is proved: laws of loops that count up, in the words of the printed statements. -/
import Derived.Test.YtifjflhnfjhijaaGreatDoorZPSSimE
import Derived.Test.YtifjflhnfjhijaaGreatDoorZPSBig
import Derived.Laws.Strings
import Derived.Test.YtifjflhnfjhijaaGreatDoorZPSWPv
import Derived.Test.YtifjflhnfjhijaaGreatDoorZPSWE

namespace Go.Sim
open Go.RowKit
theorem wi1 {i : Nat} (h : i + 1 <= 9223372036854775807) : IntKind.i64.wrap ((i : Int) + 1) = ((i + 1 : Nat) : Int) := by
 rw [wi (by omega) (by omega)]; omega
theorem Loop1.up {b : Int -> (Int -> Prop) -> Prop} (n : Nat) (P : Nat -> Prop) (h0 : P 0) (st : ∀ (i : Nat) (k : Int -> Prop), i <= n -> P i -> (i + 1 <= n -> P (i + 1) -> k ((i + 1 : Nat) : Int)) -> b (i : Int) k) : Loop1 (0 : Int) b := by
 refine ⟨fun z => ∃ j : Nat, z = (j : Int) /\ j <= n /\ P j, fun z => n - z.toNat, ⟨0, rfl, Nat.zero_le _, h0⟩, ?_⟩
 rintro _ ⟨j, rfl, hj, hP⟩
 refine st j _ hj hP fun h1 h2 => ⟨⟨j + 1, rfl, h1, h2⟩, ?_⟩
 simp only [Int.toNat_natCast]; omega
theorem Loop2.up {α : Type} {s0 : α} {b : α -> Int -> (α -> Int -> Prop) -> Prop} (n : Nat) (P : Nat -> α -> Prop) (h0 : P 0 s0) (st : ∀ (i : Nat) (s : α) (k : α -> Int -> Prop), i <= n -> P i s -> (∀ s', i + 1 <= n -> P (i + 1) s' -> k s' ((i + 1 : Nat) : Int)) -> b s (i : Int) k) : Loop2 s0 (0 : Int) b := by
 refine ⟨fun s z => ∃ j : Nat, z = (j : Int) /\ j <= n /\ P j s, fun _ z => n - z.toNat, ⟨0, rfl, Nat.zero_le _, h0⟩, ?_⟩
 rintro s _ ⟨j, rfl, hj, hP⟩
 refine st j s _ hj hP fun s' h1 h2 => ⟨⟨j + 1, rfl, h1, h2⟩, ?_⟩
 simp only [Int.toNat_natCast]; omega
theorem At.nat {α : Type} {xs : List α} {i : Nat} {k : α -> Prop} (h : i < xs.length) (hk : ∀ x, xs[i]? = some x -> k x) : At xs (i : Int) k :=
 ⟨by omega, xs[i], by rw [Int.toNat_natCast]; exact List.getElem?_eq_getElem h, hk _ (List.getElem?_eq_getElem h)⟩
theorem q9p {a b : ByteArray} : (a.toList == b.toList) = true ↔ a = b := by
 rw [beq_iff_eq, ByteArray.toList_eq, ByteArray.toList_eq]
 exact ⟨fun h => ByteArray.ext (Array.ext' h), fun h => by rw [h]⟩
end Go.Sim

/- What is proved: laws of searches through lists. -/
namespace Go.Sim
def q3m {α : Type} (p : α -> Bool) (xs : List α) : Int := match xs.findIdx? p with | some i => (i : Int) | none => -1
theorem qFi {α : Type} {p : α -> Bool} {xs : List α} {i : Nat} {x : α} (hx : xs[i]? = some x) (hp : p x = true) (hP : ∀ j y, j < i -> xs[j]? = some y -> p y = false) : q3m p xs = (i : Int) := by
 have : xs.findIdx? p = some i := by
  rw [List.findIdx?_eq_some_iff_getElem]
  obtain ⟨h1, h2⟩ := List.getElem?_eq_some_iff.1 hx
  refine ⟨h1, by rw [h2]; exact hp, fun j hj => ?_⟩
  have := hP j (xs[j]'(by omega)) hj (List.getElem?_eq_getElem _)
  simp [this]
 unfold q3m; rw [this]
theorem qFj {α : Type} {p : α -> Bool} {xs : List α} (hP : ∀ j y, j < xs.length -> xs[j]? = some y -> p y = false) : q3m p xs = -1 := by
 have : xs.findIdx? p = none := by
  rw [List.findIdx?_eq_none_iff]
  intro x hx
  obtain ⟨j, hj⟩ := List.mem_iff_getElem?.1 hx
  exact hP j x (List.getElem?_eq_some_iff.1 hj).1 hj
 unfold q3m; rw [this]
theorem qR4 {α : Type} {p : α -> Bool} {xs : List α} {i : Nat} {x : α} (hx : xs[i]? = some x) (hp : p x = false) (hP : ∀ j y, j < i -> xs[j]? = some y -> p y = false) : ∀ j y, j < i + 1 -> xs[j]? = some y -> p y = false := by
 intro j y hj hy
 by_cases e : j = i
 ·subst e; rw [hx] at hy; cases hy; exact hp
 ·exact hP j y (by omega) hy
theorem qNh {α : Type} (p : α -> Bool) (xs : List α) : decide (q3m p xs >= 0) = xs.any p := by
 unfold q3m
 cases he : xs.findIdx? p with
 | none =>
  rw [List.findIdx?_eq_none_iff] at he
  rw [Bool.eq_iff_iff, decide_eq_true_iff, List.any_eq_true]
  constructor
  ·intro h; simp only [] at h; omega
  ·rintro ⟨x, hx, h⟩
   rw [he x hx] at h; cases h
 | some i =>
  rw [List.findIdx?_eq_some_iff_getElem] at he
  obtain ⟨h0, h2, _⟩ := he
  rw [Bool.eq_iff_iff, decide_eq_true_iff, List.any_eq_true]
  exact ⟨fun _ => ⟨xs[i], List.getElem_mem h0, h2⟩, fun _ => by simp only []; omega⟩
theorem Loop1.first {α : Type} {b : Int -> (Int -> Prop) -> Prop} (xs : List α) (p : α -> Bool)
    (st : ∀ (i : Nat) (k : Int -> Prop), i <= xs.length -> (∀ j y, j < i -> xs[j]? = some y -> p y = false) -> (∀ x, xs[i]? = some x -> p x = false -> k ((i + 1 : Nat) : Int)) -> b (i : Int) k) : Loop1 (0 : Int) b := by
  refine Loop1.up xs.length (fun i => ∀ j y, j < i -> xs[j]? = some y -> p y = false) (by intro j x h; omega) ?_
  intro i k hi hP hk
  refine st i k hi hP fun x hx hp => hk (by have := (List.getElem?_eq_some_iff.1 hx).1; omega) (qR4 hx hp hP)
end Go.Sim

/- What is proved: how deep a tree is, and how many nodes it has, as the program and the reference tell; tests of lists of trees. -/
namespace Go.Sim.YtifjflhnfjhijaaGreatDoor
open Go.RowKit Go.Proofs Go.Proofs.Tryz
theorem qM1 {s : List GTree} {f : DV} {p : GTree -> Bool} (hs : s.length <= maxLen) (hf : ∀ t ∈ s, FVal prog f [GTree.out t] (.v (.bool (p t)))) : q1s s f (q3m p s) := by
 have hm : maxLen = 9223372036854775807 := rfl
 refine q7u ?_
 unfold q1x
 refine Loop1.first s p ?_
 intro i k hi hP hk
 refine Br.d (fun h => At.nat (by omega) fun x hx => Call.mk (hf x (List.mem_of_getElem? hx)) ⟨fun hp => ?_, fun hp => ?_⟩) (fun h => ?_)
 ·exact (qFi hx hp hP).symm
 ·exact Let.as _ (wi1 (by omega)) (hk x hx hp)
 ·exact (qFj fun j y hj => hP j y (by omega)).symm
theorem qI6 {s : List GTree} {f : DV} {p : GTree -> Bool} (hs : s.length <= maxLen) (hf : ∀ t ∈ s, FVal prog f [GTree.out t] (.v (.bool (p t)))) : q1h s f (s.any p) := by
 refine q6l ?_
 unfold q1n
 exact Call.mk (qM1 hs hf) (qNh p s)
mutual
def dep : GTree -> Nat
 | ⟨_, _, _, _, _, _, _, ks⟩ => depL ks + 1
def depL : List GTree -> Nat
 | [] => 0
 | t :: ts => max (dep t) (depL ts)
end
theorem qOm (t : GTree) : dep t = depL t.Kids + 1 := by cases t; simp only [dep]
theorem qR5 (t : GTree) : 1 <= dep t := by rw [qOm]; omega
mutual
def siz : GTree -> Nat
 | ⟨_, _, _, _, _, _, _, ks⟩ => sizL ks + 1
def sizL : List GTree -> Nat
 | [] => 0
 | t :: ts => siz t + sizL ts
end
theorem qOn (t : GTree) : siz t = sizL t.Kids + 1 := by cases t; simp only [siz]
theorem qDz : ∀ (xs ys : List GTree), depL (xs ++ ys) = max (depL xs) (depL ys)
 | [], ys => by simp [depL]
 | x :: xs, ys => by simp only [List.cons_append, depL, qDz xs ys]; omega
theorem qE0 : ∀ (xs ys : List GTree), sizL (xs ++ ys) = sizL xs + sizL ys
 | [], ys => by simp [sizL]
 | x :: xs, ys => by simp only [List.cons_append, sizL, qE0 xs ys]; omega
theorem qM2 {xs : List GTree} {i : Nat} {x : GTree} (h : xs[i]? = some x) : depL (xs.take (i + 1)) = max (depL (xs.take i)) (dep x) := by
 rw [List.take_add_one, h, qDz]; simp [depL]
theorem qM3 {xs : List GTree} {i : Nat} {x : GTree} (h : xs[i]? = some x) : sizL (xs.take (i + 1)) = sizL (xs.take i) + siz x := by
 rw [List.take_add_one, h, qE0]; simp [sizL]
theorem qVe (xs : List GTree) (i : Nat) : depL (xs.take i) <= depL xs := by
 have := qDz (xs.take i) (xs.drop i)
 rw [List.take_append_drop] at this; omega
theorem qR6 (xs : List GTree) (i : Nat) : sizL (xs.take i) <= sizL xs := by
 have := qE0 (xs.take i) (xs.drop i)
 rw [List.take_append_drop] at this; omega
theorem qR7 (n : Nat) : ∀ xs : List GTree, xs.any (fun k => decide (n < dep k)) = decide (n < depL xs)
 | [] => by simp [depL]
 | x :: xs => by
  rw [List.any_cons, qR7 n xs, Bool.eq_iff_iff, show depL (x :: xs) = max (dep x) (depL xs) from rfl]
  simp only [Bool.or_eq_true, decide_eq_true_eq]
  omega
theorem qI7 {t : GTree} (h : t.ok) : t.Kids.length <= maxLen := ((GTree.ok_iff t).1 h).2.2.2.2.2.2.1
theorem qI8 {t : GTree} (h : t.ok) : ∀ k ∈ t.Kids, k.ok := ((GTree.ok_iff t).1 h).2.2.2.2.2.2.2
theorem qR8 : ∀ (n : Nat) (t : GTree), t.ok -> n <= 100000 -> qAg t (n : Int) (decide (n < dep t))
 | 0, t, ht, _ => by
  refine qC0 ?_
  unfold q9f
  refine Br.eT rfl ?_
  have := qR5 t
  exact (decide_eq_true (by omega)).symm
 | n + 1, t, ht, hn => by
  refine qC0 ?_
  unfold q9f
  refine Br.eF (by omega) (Call.mk (qI6 (p := fun k => decide (n < dep k)) (qI7 ht) fun k hk => qFg (qFh ?_)) ?_)
  ·unfold q9o
   exact Let.as (n : Int) (by rw [wi (by omega) (by omega)]; omega) (Call.mk (qR8 n k (qI8 ht k hk) (by omega)) rfl)
  ·show _ = _
   rw [qR7, qOm, Bool.eq_iff_iff]
   simp only [decide_eq_true_eq]; omega
theorem qOo (m : Nat) (t : GTree) (ht : t.ok) (hm : m <= 100000) : q9m t (m : Int) ((min (siz t) (m + 1) : Nat) : Int) := by
 have hml : maxLen = 9223372036854775807 := rfl
 have hk := qI7 ht
 refine qGs ?_
 unfold qAt
 refine Loop2.up t.Kids.length (fun i n => n = ((min (1 + sizL (t.Kids.take i)) (m + 1) : Nat) : Int)) (by simp [sizL]) ?_
 rintro i _ k hi rfl hk2
 refine Br.d (fun h => At.nat (by omega) fun x hx => Br.d (fun hb => ?_) (fun hb => ?_)) (fun h => ?_)
 ·show _ = _
  have := qR6 t.Kids i
  have := qOn t
  omega
 ·obtain ⟨a, ha⟩ : ∃ a, a = 1 + sizL (t.Kids.take i) := ⟨_, rfl⟩
  rw [← ha] at hb ⊢
  have ha1 : a <= m := by omega
  have e : min a (m + 1) = a := by omega
  rw [e]
  refine Let.as ((m - a : Nat) : Int) (by rw [wi (by omega) (by omega)]; omega) (Call.mk (qOo (m - a) x (qI8 ht x (List.mem_of_getElem? hx)) (by omega)) (Let.as ((a + min (siz x) (m - a + 1) : Nat) : Int) (by rw [wi (by omega) (by omega)]; omega) (Let.as _ (wi1 (by omega)) (hk2 _ (by omega) ?_))))
  rw [qM3 hx]; omega
 ·show _ = _
  have : i = t.Kids.length := by omega
  subst this
  rw [List.take_length, qOn]; omega
termination_by m
decreasing_by omega
theorem qKf : ∀ (m : Nat) (t : GTree), t.ok -> m <= 100000 -> q8d t (m : Int) ((min (dep t) m : Nat) : Int)
 | 0, t, _, _ => by
  refine q8w ?_
  unfold q7t
  exact Br.dT (by omega) (by rw [Nat.min_zero])
 | 1, t, _, _ => by
  refine q8w ?_
  unfold q7t
  have := qR5 t
  exact Br.dT (by omega) (by show _ = _; omega)
 | m + 2, t, ht, hm => by
  have hml : maxLen = 9223372036854775807 := rfl
  have hk := qI7 ht
  refine q8w ?_
  unfold q7t
  refine Br.dF (by omega) (Loop2.up t.Kids.length (fun i n => depL (t.Kids.take i) <= m /\ n = ((depL (t.Kids.take i) : Nat) : Int)) (by simp [depL]) ?_)
  rintro i _ k hi ⟨hd, rfl⟩ hk2
  have hstep : IntKind.i64.wrap (((m + 2 : Nat) : Int) - 1) = ((m + 1 : Nat) : Int) := by rw [wi (by omega) (by omega)]; omega
  refine Br.d (fun h => At.nat (by omega) fun x hx => Let.as _ hstep (Call.mk (qKf (m + 1) x (qI8 ht x (List.mem_of_getElem? hx)) (by omega)) ⟨fun n => n = ((max (depL (t.Kids.take i)) (min (dep x) (m + 1)) : Nat) : Int), ?_, ?_⟩)) (fun h => ?_)
  ·refine Br.d (fun hb => ?_) (fun hb => ?_)
   ·show _ = _; omega
   ·show _ = _; omega
  ·rintro _ rfl
   refine Let.as _ hstep (Br.d (fun hb => ?_) (fun hb => Let.as _ (wi1 (by omega)) (hk2 _ (by omega) ?_)))
   ·show _ = _
    have h1 := qVe t.Kids (i + 1)
    rw [qM2 hx] at h1
    have := qOm t
    omega
   ·rw [qM2 hx]; omega
  ·have : i = t.Kids.length := by omega
   subst this
   rw [List.take_length] at hd ⊢
   refine Let.as ((depL t.Kids + 1 : Nat) : Int) (by rw [wi (by omega) (by omega)]; omega) ?_
   show _ = _
   rw [qOm]; omega
theorem qI9 (m : Nat) (t : GTree) (ht : t.ok) (h1 : 1 <= m) (hm : m <= 100000) : q7h t (m : Int) ((min (siz t) m : Nat) : Int) := by
 have hml : maxLen = 9223372036854775807 := rfl
 have hk := qI7 ht
 refine qGt ?_
 unfold qAu
 refine Loop2.up t.Kids.length (fun i n => n = ((min (1 + sizL (t.Kids.take i)) m : Nat) : Int)) (by simp [sizL]; omega) ?_
 rintro i _ k hi rfl hk2
 refine Br.d (fun h => At.nat (by omega) fun x hx => Br.d (fun hb => ?_) (fun hb => ?_)) (fun h => ?_)
 ·show _ = _
  have := qR6 t.Kids i
  have := qOn t
  omega
 ·obtain ⟨a, ha⟩ : ∃ a, a = 1 + sizL (t.Kids.take i) := ⟨_, rfl⟩
  rw [← ha] at hb ⊢
  have ha1 : a < m := by omega
  have e : min a m = a := by omega
  rw [e]
  refine Let.as ((m - a : Nat) : Int) (by rw [wi (by omega) (by omega)]; omega) (Call.mk (qI9 (m - a) x (qI8 ht x (List.mem_of_getElem? hx)) (by omega) (by omega)) (Let.as ((a + min (siz x) (m - a) : Nat) : Int) (by rw [wi (by omega) (by omega)]; omega) (Let.as _ (wi1 (by omega)) (hk2 _ (by omega) ?_))))
  rw [qM3 hx]; omega
 ·have : i = t.Kids.length := by omega
  subst this
  rw [List.take_length]
  have := qOn t
  refine Br.d (fun hb => ?_) (fun hb => ?_)
  ·show _ = _; omega
  ·show _ = _; omega
termination_by m
decreasing_by omega
end Go.Sim.YtifjflhnfjhijaaGreatDoor

/- What is proved: which nodes may be, by themselves, as the program tells (shape_ev). -/
namespace Go.Sim.YtifjflhnfjhijaaGreatDoor
open Go.RowKit Go.Proofs Go.Proofs.Tryz
end Go.Sim.YtifjflhnfjhijaaGreatDoor

/- What is proved: functions of the program compute what plain statements tell. -/
namespace Go.Sim.YtifjflhnfjhijaaGreatDoor
open Go.RowKit Go.Proofs Go.Proofs.Tryz
set_option maxRecDepth 100000
def qE1 (a1 : GRat) (Q : Bool -> Prop) : Prop :=
 Br (decide (a1.D >= (1 : Int))) (
 Br (decide (a1.N > (-9223372036854775808 : Int))) (
 Call (q78 a1.N) fun x8 =>
 Call (q78 a1.D) fun x10 =>
 Call (qD3 x8 x10) fun x12 =>
 Q (x12 == (1 : Int))) (
 Q false)) (
 Q false)
theorem qJt {a1 : GRat} {r : Bool} (h : qE1 a1 (fun r' => r' = r)) : q43 a1 r := by
 unfold qE1 at h
 refine intr (L := [(0, .dat (GRat.enc a1))]) Tryz.func178 Tryz.ntmps178 ?_
 refine sN (bx (v := .dat (.st _ _)) ?_)
 refine pB rfl (dn (AWp.seq (rD (pP rfl (pI rfl (pB rfl (pB rfl (sB 6 h (fun h => ?_) (fun h => ?_)))))))))
 ·refine pP rfl (pI rfl (pB rfl (pB rfl (pB rfl (sB 11 h (fun h => ?_) (fun h => ?_))))))
  ·refine pP rfl (pI rfl (kC h rfl ⟨.inl rfl, trivial⟩ rfl fun x8 h => ?_))
   refine pP rfl (pI rfl (kC h rfl ⟨.inl rfl, trivial⟩ rfl fun x10 h => ?_))
   refine kC h rfl ⟨.inl rfl, .inl rfl, trivial⟩ rfl fun x12 h => pB rfl ?_
   refine pB rfl (pB rfl (dn (AWp.ret ?_)))
   subst h
   exact ⟨_, rfl, rfl⟩
  refine fo 8 rfl (pB rfl (pB rfl (dn (AWp.ret ?_))))
  subst h
  exact ⟨_, rfl, rfl⟩
 refine fo 3 rfl (pB rfl (pB rfl (fo 8 rfl (pB rfl (pB rfl (dn (AWp.ret ?_)))))))
 subst h
 exact ⟨_, rfl, rfl⟩
def qIa (a1 : Int) (b2 : Int) (Q : Int -> Prop) : Prop :=
 Loop2 a1 b2 (fun (a17 : Int) (b18 : Int) next19 =>
 Br (decide (b18 > (0 : Int))) (
 Nz b18 <|
 Let (Int.tmod a17 b18) fun x20 =>
 next19 b18 x20) (
 Q a17))
theorem qM4 {a1 : Int} {b2 : Int} {r : Int} (h : qIa a1 b2 (fun r' => r' = r)) : qD3 a1 b2 r := by
 unfold qIa at h
 refine intr (L := [(0, .dat (.v (.int .u64 a1))), (1, .dat (.v (.int .u64 b2)))]) Tryz.func145 Tryz.ntmps145 ?_
 refine sN (pI rfl (dn (AWp.seq (AWp.block ?_))))
 obtain ⟨I21, x22, hz23, hr24⟩ := h
 refine AWp.loop (I := fun p : Int × Int => mkSt [(0, .dat (.v (.int .u64 p.1))), (1, .dat (.v (.int .u64 p.2)))] []) (Inv := fun p => I21 p.1 p.2) (μ := fun p => x22 p.1 p.2) (x0 := ⟨a1, b2⟩) hz23 sl (fun p hp => ?_)
 obtain ⟨a17, b18⟩ := p
 have h := hr24 a17 b18 hp
 refine AWp.seq (AWp.seq (rN (pI rfl (pB rfl (dn (cB h (fun h => ?_) (fun h => ?_)))))))
 ·refine AWp.skip (AWp.block (rD (pI rfl (pI rfl (pI rfl ?_)))))
  obtain ⟨hq, h⟩ := h
  obtain ⟨x20, ex20, h⟩ := h.get
  refine AOps.q rfl rfl rfl rfl rfl (qAe hq) ex20 ?_
  refine pI rfl (pI rfl (dn ?_))
  exact ⟨⟨b18, x20⟩, h.1, h.2, sl⟩
 refine AWp.exit ?_
 refine sN (pI rfl (pI rfl (dn (AWp.ret ?_))))
 subst h
 exact ⟨_, rfl, rfl⟩
def qFk (n1 : Int) (Q : Int -> Prop) : Prop :=
 Br (decide (n1 < (0 : Int))) (
 Let (IntKind.u64.wrap n1) fun x4 =>
 Let (IntKind.u64.wrap ((0 : Int) - x4)) fun x5 =>
 Q x5) (
 Let (IntKind.u64.wrap n1) fun x6 =>
 Q x6)
theorem qKv {n1 : Int} {r : Int} (h : qFk n1 (fun r' => r' = r)) : q78 n1 r := by
 unfold qFk at h
 refine intr (L := [(0, .dat (.v (.int .i64 n1)))]) Tryz.func115 Tryz.ntmps115 ?_
 refine sN (pI rfl (dn (AWp.seq (AWp.seq (rN (pI rfl (pB rfl (dn (cB h (fun h => ?_) (fun h => ?_))))))))))
 ·refine sN (pI rfl ?_)
  obtain ⟨x4, ex4, h⟩ := h.get
  refine ai ex4 rfl ?_
  obtain ⟨x5, ex5, h⟩ := h.get
  refine ai ex5 rfl (pI rfl (dn (AWp.ret ?_)))
  subst h
  exact ⟨_, rfl, rfl⟩
 refine AWp.skip (AWp.seq (rN (pI rfl ?_)))
 obtain ⟨x6, ex6, h⟩ := h.get
 refine ai ex6 rfl (pI rfl (dn (AWp.ret ?_)))
 subst h
 exact ⟨_, rfl, rfl⟩
def qFl (neg1 : Bool) (n2 : Int) (d3 : Int) (Q : GRat × Int -> Prop) : Prop :=
 Call (qD3 n2 d3) fun x4 =>
 Nz x4 <|
 Let (IntKind.u64.wrap (Int.tdiv n2 x4)) fun x6 =>
 Nz x4 <|
 Let (IntKind.u64.wrap (Int.tdiv d3 x4)) fun x7 =>
 Br (decide (x6 > (9223372036854775807 : Int))) (Q (GRat.zero, (3 : Int))) (
 Br (decide (x7 > (9223372036854775807 : Int))) (Q (GRat.zero, (3 : Int))) (
 Br neg1 (
 Let (IntKind.i64.wrap x6) fun x11 =>
 Let (IntKind.i64.wrap (0 - x11)) fun x12 =>
 Let (IntKind.i64.wrap x7) fun x13 =>
 Q ((GRat.mk x12 x13), (0 : Int))) (
 Let (IntKind.i64.wrap x6) fun x14 =>
 Let (IntKind.i64.wrap x7) fun x15 =>
 Q ((GRat.mk x14 x15), (0 : Int)))))
theorem qKw {neg1 : Bool} {n2 : Int} {d3 : Int} {r : GRat × Int} (h : qFl neg1 n2 d3 (fun r' => r' = r)) : qAj neg1 n2 d3 r := by
 unfold qFl at h
 refine intr (L := [(0, .dat (.v (.bool neg1))), (1, .dat (.v (.int .u64 n2))), (2, .dat (.v (.int .u64 d3)))]) Tryz.func114 Tryz.ntmps114 ?_
 refine sN (al0 ?_)
 refine pI rfl (dn (AWp.seq (rN (pI rfl (pI rfl (kC h rfl ⟨.inl rfl, .inl rfl, trivial⟩ rfl fun x4 h => ?_))))))
 refine pI rfl (dn (AWp.seq (rD (pI rfl (pI rfl ?_)))))
 obtain ⟨hq, h⟩ := h
 obtain ⟨x6, ex6, h⟩ := h.get
 refine AOps.q rfl rfl rfl rfl rfl (qHe hq) ex6 ?_
 refine pI rfl (pI rfl ?_)
 obtain ⟨hq, h⟩ := h
 obtain ⟨x7, ex7, h⟩ := h.get
 refine AOps.q rfl rfl rfl rfl rfl (qHe hq) ex7 ?_
 refine pI rfl (pI rfl (dn (AWp.seq (AWp.seq (rN (pI rfl (pB rfl (pB rfl (sB 20 h (fun h => ?_) (fun h => ?_))))))))))
 ·refine ff rfl (ff rfl (pB rfl (dn ?_)))
  refine AWp.condT rfl ?_
  refine sW (pT rfl (st (v := .dat (.st _ _)) ?_))
  refine pI rfl (dn (AWp.ret ?_))
  subst h
  exact ⟨_, rfl, rfl⟩
 refine pI rfl (pB rfl (pB rfl (dn (cB h (fun h => ?_) (fun h => ?_)))))
 ·refine sW (pT rfl (st (v := .dat (.st _ _)) ?_))
  refine pI rfl (dn (AWp.ret ?_))
  subst h
  exact ⟨_, rfl, rfl⟩
 refine AWp.skip (AWp.seq (AWp.seq (rN (pB rfl (dn (cB h (fun h => ?_) (fun h => ?_)))))))
 ·refine sW (pI rfl ?_)
  obtain ⟨x11, ex11, h⟩ := h.get
  refine ai ex11 rfl ?_
  obtain ⟨x12, ex12, h⟩ := h.get
  refine ai ex12 rfl (pI rfl ?_)
  obtain ⟨x13, ex13, h⟩ := h.get
  refine ai ex13 rfl (pT rfl (st (v := .dat (.st _ _)) ?_))
  refine pI rfl (dn (AWp.ret ?_))
  subst h
  exact ⟨_, rfl, rfl⟩
 refine AWp.skip (AWp.seq (rW (pI rfl ?_)))
 obtain ⟨x14, ex14, h⟩ := h.get
 refine ai ex14 rfl (pI rfl ?_)
 obtain ⟨x15, ex15, h⟩ := h.get
 refine ai ex15 rfl (pT rfl (st (v := .dat (.st _ _)) ?_))
 refine pI rfl (dn (AWp.ret ?_))
 subst h
 exact ⟨_, rfl, rfl⟩
def q7c (x1 : Int) (y2 : Int) (Q : Int × Int -> Prop) : Prop :=
 Let (bits .and .u64 x1 (4294967295 : Int)) fun x3 =>
 Let (Int.fdiv x1 (2 ^ 32)) fun x4 =>
 Let (bits .and .u64 y2 (4294967295 : Int)) fun x5 =>
 Let (Int.fdiv y2 (2 ^ 32)) fun x6 =>
 Let (IntKind.u64.wrap (x3 * x5)) fun x7 =>
 Let (IntKind.u64.wrap (x4 * x5)) fun x8 =>
 Let (Int.fdiv x7 (2 ^ 32)) fun x9 =>
 Let (IntKind.u64.wrap (x8 + x9)) fun x10 =>
 Let (bits .and .u64 x10 (4294967295 : Int)) fun x11 =>
 Let (Int.fdiv x10 (2 ^ 32)) fun x12 =>
 Let (IntKind.u64.wrap (x3 * x6)) fun x13 =>
 Let (IntKind.u64.wrap (x11 + x13)) fun x14 =>
 Let (IntKind.u64.wrap (x4 * x6)) fun x15 =>
 Let (IntKind.u64.wrap (x15 + x12)) fun x16 =>
 Let (Int.fdiv x14 (2 ^ 32)) fun x17 =>
 Let (IntKind.u64.wrap (x16 + x17)) fun x18 =>
 Let (IntKind.u64.wrap (x1 * y2)) fun x19 =>
 Q (x18, x19)
theorem qDe {x1 : Int} {y2 : Int} {r : Int × Int} (h : q7c x1 y2 (fun r' => r' = r)) : q6b x1 y2 r := by
 unfold q7c at h
 refine intr (L := [(0, .dat (.v (.int .u64 x1))), (1, .dat (.v (.int .u64 y2)))]) Tryz.func143 Tryz.ntmps143 ?_
 refine sN (pI rfl (pI rfl (dn (AWp.seq (rN (pI rfl ?_))))))
 obtain ⟨x3, ex3, h⟩ := h.get
 refine ai ex3 rfl (pI rfl (dn (AWp.seq (rN (pI rfl ?_)))))
 obtain ⟨x4, ex4, h⟩ := h.get
 refine AOps.q rfl rfl rfl rfl rfl (q4a (by decide)) ex4 ?_
 refine pI rfl (dn (AWp.seq (rN (pI rfl ?_))))
 obtain ⟨x5, ex5, h⟩ := h.get
 refine ai ex5 rfl (pI rfl (dn (AWp.seq (rN (pI rfl ?_)))))
 obtain ⟨x6, ex6, h⟩ := h.get
 refine AOps.q rfl rfl rfl rfl rfl (q4a (by decide)) ex6 ?_
 refine pI rfl (dn (AWp.seq (rN (pI rfl (pI rfl ?_)))))
 obtain ⟨x7, ex7, h⟩ := h.get
 refine ai ex7 rfl (pI rfl (dn (AWp.seq (rN (pI rfl (pI rfl ?_))))))
 obtain ⟨x8, ex8, h⟩ := h.get
 refine ai ex8 rfl (pI rfl ?_)
 obtain ⟨x9, ex9, h⟩ := h.get
 refine AOps.q rfl rfl rfl rfl rfl (q4a (by decide)) ex9 ?_
 obtain ⟨x10, ex10, h⟩ := h.get
 refine ai ex10 rfl (pI rfl (dn (AWp.seq (rN (pI rfl ?_)))))
 obtain ⟨x11, ex11, h⟩ := h.get
 refine ai ex11 rfl (pI rfl (dn (AWp.seq (rN (pI rfl ?_)))))
 obtain ⟨x12, ex12, h⟩ := h.get
 refine AOps.q rfl rfl rfl rfl rfl (q4a (by decide)) ex12 ?_
 refine pI rfl (dn (AWp.seq (rN (pI rfl (pI rfl (pI rfl ?_))))))
 obtain ⟨x13, ex13, h⟩ := h.get
 refine ai ex13 rfl ?_
 obtain ⟨x14, ex14, h⟩ := h.get
 refine ai ex14 rfl (pI rfl (dn (AWp.seq (rN (pI rfl (pI rfl ?_))))))
 obtain ⟨x15, ex15, h⟩ := h.get
 refine ai ex15 rfl (pI rfl ?_)
 obtain ⟨x16, ex16, h⟩ := h.get
 refine ai ex16 rfl (pI rfl ?_)
 obtain ⟨x17, ex17, h⟩ := h.get
 refine AOps.q rfl rfl rfl rfl rfl (q4a (by decide)) ex17 ?_
 obtain ⟨x18, ex18, h⟩ := h.get
 refine ai ex18 rfl (pI rfl (dn (AWp.seq (rN (pI rfl (pI rfl ?_))))))
 obtain ⟨x19, ex19, h⟩ := h.get
 refine ai ex19 rfl (pI rfl (dn (AWp.ret ?_)))
 subst h
 exact ⟨_, rfl, rfl⟩
def qFm (n1 : Int) (d2 : Int) (Q : GRat × Int -> Prop) : Prop :=
 Br (d2 == (0 : Int)) (Q (GRat.zero, (6 : Int))) (
 Call (q78 n1) fun x3 =>
 Call (q78 d2) fun x5 =>
 Call (qAj ((decide (n1 < (0 : Int))) != (decide (d2 < (0 : Int)))) x3 x5) fun x7 =>
 Q (x7.1, x7.2))
theorem qKx {n1 : Int} {d2 : Int} {r : GRat × Int} (h : qFm n1 d2 (fun r' => r' = r)) : q77 n1 d2 r := by
 unfold qFm at h
 refine intr (L := [(0, .dat (.v (.int .i64 n1))), (1, .dat (.v (.int .i64 d2)))]) Tryz.func86 Tryz.ntmps86 ?_
 refine sN (al0 ?_)
 refine pI rfl (dn (AWp.seq (AWp.seq (rN (pI rfl (pB rfl (dn (cB h (fun h => ?_) (fun h => ?_)))))))))
 ·refine sW (pT rfl (st (v := .dat (.st _ _)) ?_))
  refine pI rfl (dn (AWp.ret ?_))
  subst h
  exact ⟨_, rfl, rfl⟩
 refine AWp.skip (AWp.seq (rW (pI rfl (pB rfl (pI rfl (pB rfl (pB rfl (pI rfl (kC h rfl ⟨.inl rfl, trivial⟩ rfl fun x3 h => ?_)))))))))
 refine pI rfl (kC h rfl ⟨.inl rfl, trivial⟩ rfl fun x5 h => ?_)
 refine kC h rfl ⟨.inl rfl, .inl rfl, .inl rfl, trivial⟩ rfl fun x7 h => pT rfl ?_
 refine pI rfl (st (v := .dat (.st _ _)) ?_)
 refine pI rfl (dn (AWp.ret ?_))
 subst h
 exact ⟨_, rfl, rfl⟩
end Go.Sim.YtifjflhnfjhijaaGreatDoor
