/- What is proved: the parser's methods for names, expressions and dimensions read what the plain functions read. -/
import Derived.Test.YtifjflhnfjhijaaGreatDoorZPSPevA
import Derived.Test.YtifjflhnfjhijaaGreatDoorZPSWPt

namespace Go.Sim.YtifjflhnfjhijaaGreatDoor
open Go.RowKit Go.Proofs Go.Proofs.Tryz
variable {L : List GToken} {s : PS}
abbrev JI {X β γ : Type} (L : List GToken) (o : Int) (n : Nat) (g : β -> γ) (F : X -> PS -> Except PE β) (T : Except Gparsestop γ) (p : Gparseparser) (x : X) : Prop := ∃ s', p = boxP L s' /\ Gd L s' /\ s'.2 = o /\ s'.1.length <= n /\ cwP g (F x s') = T
theorem qNn {X α : Type} {T : Except Gparsestop (α × Gparseparser)} {b : (Gparseparser -> X -> Prop) -> Prop} {k : Gparseparser -> X -> Prop} (o : Int) (n : Nat) (F : X -> PS -> PR α)
    (hb : b (JI L o n (fun r : α × PS => (r.1, boxP L r.2)) F T)) (hk : ∀ x s', Gd L s' -> s'.2 = o -> s'.1.length <= n -> cvP L (F x s') = T -> k (boxP L s') x) : q3r b k :=
  ⟨_, hb, by rintro _ x ⟨s', rfl, h1, h2, h3, h4⟩; exact hk x s' h1 h2 h3 h4⟩
theorem qPq {X β γ : Type} {g : β -> γ} {T : Except Gparsestop γ} {x0 : X} {B : Gparseparser -> X -> (Gparseparser -> X -> Prop) -> Prop} (P : X -> Nat -> Prop) (F : Nat -> X -> PS -> Except PE β) {n0 : Nat}
    (h : Gd L s) (hP : P x0 s.1.length) (hn : s.1.length < n0) (hT : cwP g (F n0 x0 s) = T)
    (st : ∀ (n : Nat) (x : X) (a : PS) (k : Gparseparser -> X -> Prop), Gd L a -> a.2 = s.2 -> P x a.1.length -> a.1.length < n + 1 -> cwP g (F (n + 1) x a) = T ->
      (∀ x' b, Gd L b -> b.2 = s.2 -> b.1.length < a.1.length -> P x' b.1.length -> cwP g (F n x' b) = T -> k (boxP L b) x') -> B (boxP L a) x k) : Loop2 (boxP L s) x0 B := by
  refine ⟨fun p x => ∃ n a, p = boxP L a /\ Gd L a /\ a.2 = s.2 /\ P x a.1.length /\ a.1.length < n /\ cwP g (F n x a) = T, fun p _ => ((L.length : Int) - p.i_).toNat, ⟨n0, s, rfl, h, rfl, hP, hn, hT⟩, ?_⟩
  rintro _ x ⟨n, a, rfl, h1, h2, h3, h4, h5⟩
  cases n with
  | zero => omega
  | succ n =>
    refine st n x a _ h1 h2 h3 h4 h5 fun x' b g1 g2 g3 g4 g5 => ⟨⟨n, b, rfl, g1, g2, g4, by omega, g5⟩, ?_⟩
    show ((L.length : Int) - ((L.length : Int) - (b.1.length : Int))).toNat < ((L.length : Int) - ((L.length : Int) - (a.1.length : Int))).toNat
    omega
theorem AppP {α : Type} {xs ys : List α} {k : List α -> Prop} (h : xs.length + ys.length <= 3000000) (hk : k (xs ++ ys)) : App 104 xs ys k :=
 ⟨by unfold maxLen; omega, by omega, Let.it hk⟩
theorem qIu (n : Int) : q53 n (qGi n) := qGr rfl
theorem q6s {α β : Type} {c : Prop} [Decidable c] (x y : Except PE α) (f : α -> Except PE β) : bnd (if c then x else y) f = if c then bnd x f else bnd y f := by split <;> rfl
theorem q1b {α β γ : Type} (x : Except PE α) (f : α -> Except PE β) (g : β -> Except PE γ) : bnd (bnd x f) g = bnd x fun a => bnd (f a) g := by cases x <;> rfl
theorem q1z {α β : Type} (a : α) (f : α -> Except PE β) : bnd (.ok a) f = f a := rfl
theorem qRj {α β : Type} (e : PE) (f : α -> Except PE β) : bnd (.error e) f = .error e := rfl
theorem ifT {β γ : Type} {g : β -> γ} {c : Prop} [Decidable c] {y z : Except PE β} {T : Except Gparsestop γ} (hc : c) (hT : cwP g (if c then y else z) = T) : cwP g y = T := by rw [if_pos hc] at hT; exact hT
theorem ifF {β γ : Type} {g : β -> γ} {c : Prop} [Decidable c] {y z : Except PE β} {T : Except Gparsestop γ} (hc : ¬ c) (hT : cwP g (if c then y else z) = T) : cwP g z = T := by rw [if_neg hc] at hT; exact hT
theorem cqZ {α : Type} {x : PR α} {T : Except Gparsestop (α × Gparseparser)} {R : Except Gparsestop (α × Gparseparser) -> Prop} (hT : cvP L x = T) (hR : R (cvP L x)) : CallX R (fun e => .error e = T) (fun r => .ok (r.1, r.2) = T) := by
 cases x with
 | ok a => exact ⟨_, hR, hT⟩
 | error e => exact ⟨_, hR, hT⟩
theorem qY7 (h : Gd L s) : q3q (boxP L s) (cvP L (elP s)) := by
 refine qDc ?_
 unfold q7b
 generalize hT : cvP L (elP s) = T
 unfold elP at hT
 refine cqV h hT (q6o h) (q0q s) fun nm s1 g1 hT => ?_
 refine qRi g1.g hT (fun g2 _ hT => ?_) (fun _ hT => hT)
 refine Call.mk (qC7 g2.g) ?_
 refine qNn (L := L) (T := T) s.2 L.length (fun t s' => bnd (q0u (ByteArray.mk #[93]) s') fun s2 => .ok (t, s2)) ?_ fun t s' g _ _ hT => cqM g hT fun b _ hT => hT
 have hs : ∀ {b : PS}, Gd L b -> b.2 = s.2 -> b.2 = s.2 /\ b.1.length <= L.length := fun g e => ⟨e, g.le⟩
 refine Br.e (fun e => ?_) fun e => ?_
 ·have hT := ifT e hT
  exact cqV g2.g hT (qKh g2.g) (q6y _) fun i s3 g3 hT => Call.mk (qIu i) ⟨s3, rfl, g3.g, by rw [g3.o, g2.o, g1.o], g3.g.le, hT⟩
 ·have hT := ifF e hT
  refine cqV g2.g hT (q6o g2.g) (q0q _) fun v s3 g3 hT => ?_
  refine qNn (L := L) (T := T) s.2 L.length (fun i s' => bnd (q0u (ByteArray.mk #[93]) s') fun s2 => .ok (qDg nm [i], s2)) ?_ fun i s' g o l hT => ⟨s', rfl, g, o, l, hT⟩
  refine qDj g3.g hT (fun g4 _ hT => ?_) fun _ hT => qDj g3.g hT (fun g4 _ hT => ?_) fun _ hT => ?_
  ·exact cqV g4.g hT (qKh g4.g) (q6y _) fun i s5 g5 hT => Call.mk (qIu i) ⟨s5, rfl, g5.g, by rw [g5.o, g4.o, g3.o, g2.o, g1.o], g5.g.le, hT⟩
  ·exact cqV g4.g hT (qKh g4.g) (q6y _) fun i s5 g5 hT => Call.mk (qIu i) ⟨s5, rfl, g5.g, by rw [g5.o, g4.o, g3.o, g2.o, g1.o], g5.g.le, hT⟩
  ·exact ⟨s3, rfl, g3.g, by rw [g3.o, g2.o, g1.o], g3.g.le, hT⟩
theorem qMe (h : Gd L s) : q18 (boxP L s) (cvP L (refP s)) := by
 refine qCd ?_
 unfold q6q
 generalize hT : cvP L (refP s) = T
 unfold refP at hT
 refine cqV h hT (qY7 h) (qM7 s) fun e s1 g1 hT => ?_
 have hL := g1.g.le
 have hM := g1.g.len
 refine qPq (fun ks n => ks.length + n <= 2000000) (fun n ks a => bnd (elsP n ks a) fun q => .ok (tk 2 q.1, q.2)) g1.g (by simp only [List.length_singleton]; omega) (Nat.lt_succ_self _) hT ?_
 intro n ks a k g o hP l hT hk
 rw [elsP] at hT
 simp only [q6s, q1b, q1z] at hT
 refine qDj g hT (fun g2 _ hT => ?_) fun _ hT => hT
 refine cqV g2.g hT (qY7 g2.g) (qM7 _) fun e s3 g3 hT => AppP (by simp only [List.length_singleton]; omega) ?_
 have l2 := g2.l
 have l3 := g3.l
 exact hk _ s3 g3.g (by rw [g3.o, g2.o, o]) (by omega) (by simp only [List.length_append, List.length_singleton]; omega) hT
theorem qUj (h : Gd L s) : q30 (boxP L s) (cvP L (derP s)) := by
 refine qBy ?_
 unfold q6j
 generalize hT : cvP L (derP s) = T
 unfold derP at hT
 refine cqM h hT fun s1 g1 hT => cqE g1.g hT fun s2 g2 o2 l2 hT => cqV g2 hT (qMe g2) (q6n _) fun t s3 g3 hT => ?_
 have := g1.g.lo
 have := g3.o
 exact cqL g3.g (by omega) (by simp) hT fun b _ _ _ hT => hT
theorem qRk {m : Nat} {part : PS -> PR GTree} {one other : ByteArray} {k k2 : Int} (h : Gd L s) (hg : ∀ a, OkP (Vg 0 1 a) (part a))
    (hp : ∀ a, Gd L a -> a.2 = s.2 -> AFnB prog m 39 3 (Gparseparser.enc (boxP L a)) [] (oX (fun r : GTree × Gparseparser => GTree.out r.1) stV (cvP L (part a))) (bX (fun r : GTree × Gparseparser => Gparseparser.enc r.2) (Gparseparser.enc (boxP L a)) (cvP L (part a)))) :
    q1u (boxP L s) m one k other k2 (cvP L (q9q part one k other k2 s)) := by
  refine qCe ?_
  unfold q6r
  generalize hT : cvP L (q9q part one k other k2 s) = T
  unfold q9q at hT
  refine cqV h hT (hp s h rfl) (hg s) fun t s1 g1 hT => ?_
  refine qPq (fun _ _ => True) (fun n t a => rowP part one k other k2 n t a) g1.g trivial (Nat.lt_succ_self _) hT ?_
  intro n t a kk g o _ l hT hk
  rw [rowP] at hT
  refine qNn (L := L) (T := T) a.2 (a.1.length - 1) (fun k' a' => bnd (part a') fun r => rowP part one k other k2 n (tk k' [t, r.1]) r.2) ?_ fun k' a' g' o' l' hT => ?_
  · refine qDj g hT (fun g2 _ hT => ⟨_, rfl, g2.g, g2.o, by have := g2.l; omega, hT⟩) fun _ hT => qDj g hT (fun g2 _ hT => ⟨_, rfl, g2.g, g2.o, by have := g2.l; omega, hT⟩) fun _ hT => hT
  · refine cqV g' hT (hp a' g' (by rw [o', o, g1.o])) (hg a') fun r b gb hT => ?_
    have := gb.l
    exact hk _ b gb.g (by rw [gb.o, o', o]) (by omega) trivial hT
def qB8 (n : Nat) (st : PS) : PR GTree :=
  if (hdT st.1).Kind = 3 then bnd (numP decB st) fun r => .ok ({ GTree.zero with Kind := 1, Num := r.1 }, r.2)
  else if isP (ByteArray.mk #[116, 105, 109, 101]) st = true then .ok (tk 5 [], q0i st)
  else if isP (ByteArray.mk #[100, 101, 114]) st = true then derP st
  else if isP (ByteArray.mk #[40]) st = true then bnd (q2a (ByteArray.mk #[40]) st) fun s1 => bnd (q8i n s1) fun r => bnd (q1q [(ByteArray.mk #[41])] r.2) fun s2 => .ok (r.1, s2)
  else if (hdT st.1).Kind = 2 then
    (if fnIx (hdT st.1).S < 0 then .error (qE2 st)
     else bnd (q2a (ByteArray.mk #[40]) (q0i st)) fun s1 => bnd (q8i n s1) fun r => bnd (q1q [(ByteArray.mk #[41])] r.2) fun s2 => .ok ({ GTree.zero with Kind := 6, N := fnIx (hdT st.1).S, Kids := [r.1] }, s2))
  else refP st
theorem qRl (n : Nat) (st : PS) : negP (n + 1) st = if isP (ByteArray.mk #[45]) st = true then bnd (q2a (ByteArray.mk #[45]) st) fun s1 => bnd (negP n s1) fun r => .ok (tk 7 [r.1], (r.2.1, r.2.2 - 1))
    else bnd (qB8 n st) fun r => if isP (ByteArray.mk #[94]) r.2 = true then bnd (q6m (q0i r.2)) fun q => .ok ({ GTree.zero with Kind := 12, N := q.1, Kids := [r.1] }, q.2) else .ok r := by
  rw [negP]; rfl
theorem qOu (n : Nat) (a : PS) : OkP (Vg 0 1 a) (qB8 n a) := by
 unfold qB8
 refine OkP.ite (fun _ => (q8y _ _).bnd fun _ h => .pure h) fun _ => OkP.ite (fun h => .pure (q13 h)) fun _ => OkP.ite (fun _ => qId a) fun _ => OkP.ite (fun _ => ?_) fun _ => OkP.ite (fun hk => OkP.ite (fun _ => .err) fun _ => ?_) fun _ => q6n a
 ·exact (q0s _ _).bnd fun _ h => (q15 _ _).bnd fun _ h2 => (q1k _ _).bnd fun _ h3 => .pure (((h.trans h2).trans h3 |>.cast (by omega)).le (by simp <;> omega))
 ·exact (q0s _ _).bnd fun _ h => (q15 _ _).bnd fun _ h2 => (q1k _ _).bnd fun _ h3 => .pure (((((qC3 (by omega)).trans h).trans h2).trans h3 |>.cast (by omega)).le (by simp <;> omega))
theorem qY8 {n : Nat} (ih : ∀ s, Gd L s -> 61 <= (n : Int) + s.2 -> q1j (boxP L s) (cvP L (negP n s))) (h : Gd L s) (hn : 61 <= (n : Int) + s.2) : q8t (boxP L s) (cvP L (mulP n s)) := by
 refine qBw ?_
 unfold q6h
 exact cqZ (x := mulP n s) rfl (qRk h (q9g n) fun a g e => ih a g (by omega))
theorem qNo {n : Nat} (ih : ∀ s, Gd L s -> 61 <= (n : Int) + s.2 -> q1j (boxP L s) (cvP L (negP n s))) (h : Gd L s) (hn : 61 <= (n : Int) + s.2) : q0g (boxP L s) (cvP L (q8i n s)) := by
 refine qBk ?_
 unfold q5j
 exact cqZ (x := q8i n s) rfl (qRk h (qM8 n) fun a g e => qY8 ih g (by omega))
section
variable (hr : ∀ a : GRat, a.ok -> q43 a a.right)
include hr
theorem qTh {n : Nat} (ih : ∀ s, Gd L s -> 61 <= (n : Int) + s.2 -> q1j (boxP L s) (cvP L (negP n s))) (h : Gd L s) (hn : 61 <= (n : Int) + 1 + s.2) : q46 (boxP L s) (cvP L (qB8 n s)) := by
 refine qAs ?_
 unfold q4v
 generalize hT : cvP L (qB8 n s) = T
 unfold qB8 at hT
 have lo := h.lo
 refine qVl h hT (fun _ hT => cqV h hT (qFp h fun a ha => qEn (qIb hr ha.ok ha.dn)) (q8y _ s) fun a b _ hT => hT) fun _ hT =>
  qDj h hT (fun _ _ hT => hT) fun _ hT => isB h hT (fun _ _ hT => cqZ hT (qUj h)) fun _ hT => isB h hT (fun _ _ hT => ?_) fun _ hT => qVl h hT (fun e hT => ?_) fun _ hT => cqZ hT (qMe h)
 ·refine cqE h hT fun s1 g1 o1 l1 hT => cqV g1 hT (qNo ih g1 (by omega)) (q15 n s1) fun t s2 g2 hT => ?_
  have := g2.o
  exact cqL g2.g (by omega) (by simp) hT fun b _ _ _ hT => hT
 ·refine Call.mk qMb (Call.mk (qC7 h) (Call.mk (qMc (by simp)) ?_))
  by_cases hi : fnIx (hdT s.1).S < 0
  ·exact ⟨fun _ => False, Br.dT hi (CallX.er (qIh h) (ifT hi hT)), fun _ h => h.elim⟩
  ·have hT := ifF hi hT
   have g0 := h.next (by omega)
   have := g0.o
   refine ⟨fun p => p = boxP L s, Br.dF hi rfl, ?_⟩
   rintro _ rfl
   refine Let.as _ h.wr ?_
   show CallX (q0e (boxP L (q0i s)) _) _ _
   refine cqE g0.g hT fun s1 g1 o1 l1 hT => cqV g1 hT (qNo ih g1 (by omega)) (q15 n s1) fun t s2 g2 hT => ?_
   have := g2.o
   exact cqL g2.g (by omega) (by simp) hT fun b _ _ _ hT => hT
theorem qUk : ∀ (n : Nat) (s : PS), Gd L s -> 61 <= (n : Int) + s.2 -> q1j (boxP L s) (cvP L (negP n s))
 | 0, s, h, hn => by have := h.hi; omega
 | n + 1, s, h, hn => by
  have ih := qUk n
  refine qBz ?_
  unfold q6k
  generalize hT : cvP L (negP (n + 1) s) = T
  rw [qRl] at hT
  refine isB h hT (fun _ _ hT => ?_) fun _ hT => ?_
  ·refine cqE h hT fun s1 g1 o1 l1 hT => cqV g1 hT (ih s1 g1 (by omega)) (q9g n s1) fun t s2 g2 hT => ?_
   have := g2.g.lo
   have := g2.g.hi
   exact Let.as (s2.2 - 1) (show IntKind.i64.wrap (s2.2 - 1) = _ from wi (by omega) (by omega)) hT
  ·refine cqV h hT (qTh hr ih h (by omega)) (qOu n s) fun t s1 g1 hT => ?_
   refine qDj g1.g hT (fun g2 _ hT => ?_) fun _ hT => hT
   exact cqV g2.g hT (qIi g2.g) (q7j _) fun a s3 _ hT => hT
theorem qE4 (h : Gd L s) : q0g (boxP L s) (cvP L (q8i 62 s)) := qNo (qUk hr 62) h (by have := h.lo; omega)
end
theorem qUl {mk : Int -> Int -> GRat} {n : Nat} (ih : ∀ s, Gd L s -> 61 <= (n : Int) + s.2 -> q62 (boxP L s) (cvP L (upP mk n s))) (h : Gd L s) (hn : 61 <= (n : Int) + s.2) : q1i (boxP L s) (cvP L (dimP mk n s)) := by
 refine qBv ?_
 unfold q6g
 exact cqZ (x := dimP mk n s) rfl (qRk h (qIe mk n) fun a g e => ih a g (by omega))
section
variable {mk : Int -> Int -> GRat} (hm : ∀ a d : Int, -64 <= a -> a <= 64 -> 1 <= d -> d <= 64 -> ∃ e, q77 a d (mk a d, e))
include hm
theorem qY9 : ∀ (n : Nat) (s : PS), Gd L s -> 61 <= (n : Int) + s.2 -> q62 (boxP L s) (cvP L (upP mk n s))
  | 0, s, h, hn => by have := h.hi; omega
  | n + 1, s, h, hn => by
    have ih := qY9 n
    have lo := h.lo
    refine qDb ?_
    unfold q7a
    generalize hT : cvP L (upP mk (n + 1) s) = T
    rw [upP] at hT
    simp only [q6s, q1b, q1z] at hT
    refine qNn (L := L) (T := T) s.2 L.length (fun t s' => if isP (ByteArray.mk #[94]) s' = true then
        (if isP (ByteArray.mk #[40]) (q0i s') = true then bnd (q2a (ByteArray.mk #[40]) (q0i s')) fun s2 => bnd (q6m s2) fun a => bnd (q0u (ByteArray.mk #[47]) a.2) fun s3 => bnd (numP denB s3) fun d => bnd (q1q [(ByteArray.mk #[41])] d.2) fun s4 => .ok ({ GTree.zero with Kind := 24, Num := mk a.1 d.1.N, Kids := [t] }, s4)
         else bnd (q6m (q0i s')) fun a => .ok ({ GTree.zero with Kind := 24, Num := ⟨a.1, 1⟩, Kids := [t] }, a.2))
      else .ok (t, s')) ?_ fun t s' g o l hT => ?_
    · refine isB h hT (fun _ _ hT => ?_) fun _ hT => qVl h hT (fun _ hT => ?_) fun _ hT => ?_
      · refine cqE h hT fun s1 g1 o1 l1 hT => cqV g1 hT (qUl ih g1 (by omega)) (qGk mk n s1) fun t s2 g2 hT => ?_
        have := g2.o
        exact cqL g2.g (by omega) (by simp) hT fun b gb ob _ hT => ⟨b, rfl, gb, by omega, gb.le, hT⟩
      · exact cqV h hT (qFp h fun a _ => qBb (qY5 a)) (q8y _ s) fun a b g hT => ⟨b, rfl, g.g, g.o, g.g.le, hT⟩
      · exact cqV h hT (q6o h) (q0q s) fun a b g hT => ⟨b, rfl, g.g, g.o, g.g.le, hT⟩
    · refine qRi g hT (fun g1 _ hT => ?_) fun _ hT => hT
      refine isNP g1.g hT (fun _ _ hT => ?_) fun _ hT => cqV g1.g hT (qIi g1.g) (q7j _) fun a b _ hT => hT
      refine cqE g1.g hT fun s2 g2 o2 l2 hT => cqX hT (qIi g2) fun a ha hT => ?_
      have gp := g2.gn (q7j _ a ha)
      have lp := qOs g2 a ha
      refine cqM gp.g hT fun s3 g3 hT => cqX hT (qFp g3.g fun a _ => qBc (qY6 a)) fun d hd hT => ?_
      have gd := g3.g.gn (q8y _ _ d hd)
      obtain ⟨_, hden⟩ := qMa (a := d.1) (b := d.2) g3.g hd
      have o3 := g3.o
      have od := gd.o
      have op := gp.o
      have o1 := g1.o
      refine cqL gd.g (by omega) (by simp) hT fun b gb _ _ hT => ?_
      unfold denB at hden
      simp only [Bool.and_eq_true, decide_eq_true_iff] at hden
      obtain ⟨e, he⟩ := hm a.1 d.1.N lp.1 lp.2 (by omega) hden.2
      exact Call.mk he hT
theorem qUm (h : Gd L s) : q1i (boxP L s) (cvP L (dimP mk 62 s)) := qUl (qY9 hm 62) h (by have := h.lo; omega)
theorem qOv (h : Gd L s) : q2l (boxP L s) (cvP L (qJu mk s)) := by
 refine qBj ?_
 unfold q5i
 generalize hT : cvP L (qJu mk s) = T
 unfold qJu at hT
 exact qDj h hT (fun g1 _ hT => cqV g1.g hT (qUm hm g1.g) (qGk mk 62 _) fun a b _ hT => hT) fun _ hT => hT
end
theorem qMf (h : Gd L s) : q27 (boxP L s) (cvP L (qC1 s)) := by
 refine qAp ?_
 unfold q4s
 generalize hT : cvP L (qC1 s) = T
 unfold qC1 at hT
 exact qRi h hT (fun g1 _ hT => cqV g1.g hT (qKh g1.g) (q6y _) fun a b g2 hT => cqM g2.g hT fun c _ hT => hT) fun _ hT => hT
end Go.Sim.YtifjflhnfjhijaaGreatDoor
