/- What is proved: how trees are read from tokens, as plain functions; they read a text on, and close what they open. -/
import Derived.Test.YtifjflhnfjhijaaGreatDoorZPSWE
import Derived.Test.YtifjflhnfjhijaaGreatDoorZPSExtB

namespace Go.Sim.YtifjflhnfjhijaaGreatDoor
open Go.RowKit Go.Proofs Go.Proofs.Tryz
abbrev PE := Int × Int
abbrev PS := List GToken × Int
abbrev PR (α : Type) := Except PE (α × PS)
def bnd {α β : Type} (x : Except PE α) (f : α -> Except PE β) : Except PE β := match x with
 | .ok a => f a
 | .error e => .error e
theorem qA2 {α β : Type} {x : Except PE α} {f : α -> Except PE β} {b : β} : bnd x f = .ok b ↔ ∃ a, x = .ok a /\ f a = .ok b := by
 cases x with
 | ok a => simp [bnd]
 | error e => simp [bnd]
def hdT (ts : List GToken) : GToken := ts.headD GToken.zero
def isT (t : GToken) (s : ByteArray) : Bool := (t.Kind == 2 || t.Kind == 4) && decide (t.S = s)
def isP (s : ByteArray) (st : PS) : Bool := isT (hdT st.1) s
def q0i (st : PS) : PS := (st.1.tail, st.2)
def qE2 (st : PS) : PE := (if (hdT st.1).Kind = 0 then 131 else 130, (hdT st.1).At)
def q0u (s : ByteArray) (st : PS) : Except PE PS := if isP s st = true then .ok (q0i st) else .error (qE2 st)
def qA3 : List ByteArray -> PS -> Except PE PS
 | [], st => .ok st
 | s :: l, st => bnd (q0u s st) (qA3 l)
def q2a (s : ByteArray) (st : PS) : Except PE PS := if isP s st = true /\ 60 <= st.2 then .error (132, (hdT st.1).At) else bnd (q0u s st) fun st => .ok (st.1, st.2 + 1)
def q1q (l : List ByteArray) (st : PS) : Except PE PS := bnd (qA3 l st) fun st => .ok (st.1, st.2 - 1)
def q7v (st : PS) : PR ByteArray := if (hdT st.1).Kind = 1 then .ok ((hdT st.1).S, q0i st) else .error (qE2 st)
def numP (so : GRat -> Bool) (st : PS) : PR GRat := if (hdT st.1).Kind = 3 then (if so (hdT st.1).Num = true then .ok ((hdT st.1).Num, q0i st) else .error (110, (hdT st.1).At)) else .error (qE2 st)
def intB (a : GRat) : Bool := a.D == 1 && decide (a.N <= 1000000)
def qGu (a : GRat) : Bool := a.D == 1 && decide (a.N <= 64)
def qPm (a : GRat) : Bool := GRat.beq a ⟨1, 1⟩
def denB (a : GRat) : Bool := a.D == 1 && decide (a.N >= 1) && decide (a.N <= 64)
def intP (st : PS) : PR Int := bnd (numP intB st) fun r => .ok (r.1.N, r.2)
def q6m (st : PS) : PR Int := if isP (ByteArray.mk #[45]) st = true then bnd (numP qGu (q0i st)) fun r => .ok (-r.1.N, r.2) else bnd (numP qGu st) fun r => .ok (r.1.N, r.2)
def tk (k : Int) (ks : List GTree) : GTree := { GTree.zero with Kind := k, Kids := ks }
def qGi (n : Int) : GTree := { GTree.zero with Kind := 1, Num := ⟨n, 1⟩ }
def qDg (s : ByteArray) (ks : List GTree) : GTree := { GTree.zero with Kind := 3, Name := s, Kids := ks }
def elP (st : PS) : PR GTree := bnd (q7v st) fun r =>
  if isP (ByteArray.mk #[91]) r.2 = true then
    (let s1 := q0i r.2
     if (hdT s1.1).Kind = 3 then bnd (intP s1) fun i => bnd (q0u (ByteArray.mk #[93]) i.2) fun s2 => .ok (qDg r.1 [qGi i.1], s2)
     else bnd (q7v s1) fun v =>
       (let e := tk 2 [qDg v.1 []]
        if isP (ByteArray.mk #[43]) v.2 = true then bnd (intP (q0i v.2)) fun i => bnd (q0u (ByteArray.mk #[93]) i.2) fun s2 => .ok (qDg r.1 [tk 8 [e, qGi i.1]], s2)
        else if isP (ByteArray.mk #[45]) v.2 = true then bnd (intP (q0i v.2)) fun i => bnd (q0u (ByteArray.mk #[93]) i.2) fun s2 => .ok (qDg r.1 [tk 9 [e, qGi i.1]], s2)
        else bnd (q0u (ByteArray.mk #[93]) v.2) fun s2 => .ok (qDg r.1 [e], s2)))
  else .ok (qDg r.1 [], r.2)
def elsP : Nat -> List GTree -> PS -> PR (List GTree)
 | 0, _, _ => .error (0, 0)
 | n + 1, ks, st => if isP (ByteArray.mk #[46]) st = true then bnd (elP (q0i st)) fun r => elsP n (ks ++ [r.1]) r.2 else .ok (ks, st)
def refP (st : PS) : PR GTree := bnd (elP st) fun r => bnd (elsP (r.2.1.length + 1) [r.1] r.2) fun q => .ok (tk 2 q.1, q.2)
def derP (st : PS) : PR GTree := bnd (q0u (ByteArray.mk #[100, 101, 114]) st) fun s1 => bnd (q2a (ByteArray.mk #[40]) s1) fun s2 => bnd (refP s2) fun r => bnd (q1q [(ByteArray.mk #[41])] r.2) fun s3 => .ok (tk 4 [r.1], s3)
def rowP (part : PS -> PR GTree) (one : ByteArray) (k : Int) (other : ByteArray) (k2 : Int) : Nat -> GTree -> PS -> PR GTree
 | 0, _, _ => .error (0, 0)
 | n + 1, t, st =>
  if isP one st = true then bnd (part (q0i st)) fun r => rowP part one k other k2 n (tk k [t, r.1]) r.2
  else if isP other st = true then bnd (part (q0i st)) fun r => rowP part one k other k2 n (tk k2 [t, r.1]) r.2
  else .ok (t, st)
def q9q (part : PS -> PR GTree) (one : ByteArray) (k : Int) (other : ByteArray) (k2 : Int) (st : PS) : PR GTree := bnd (part st) fun r => rowP part one k other k2 (r.2.1.length + 1) r.1 r.2
def fnIx (s : ByteArray) : Int := q3m (fun x : ByteArray => decide (s = x)) ([(ByteArray.mk #[]), (ByteArray.mk #[]), (ByteArray.mk #[]), (ByteArray.mk #[]), (ByteArray.mk #[]), (ByteArray.mk #[]), (ByteArray.mk #[]), (ByteArray.mk #[]), (ByteArray.mk #[]), (ByteArray.mk #[115, 113, 114, 116]), (ByteArray.mk #[101, 120, 112]), (ByteArray.mk #[108, 111, 103]), (ByteArray.mk #[115, 105, 110]), (ByteArray.mk #[99, 111, 115]), (ByteArray.mk #[97, 116, 97, 110])])
def negP : Nat -> PS -> PR GTree
  | 0, _ => .error (0, 0)
  | n + 1, st =>
    let q8i := q9q (q9q (negP n) (ByteArray.mk #[42]) 10 (ByteArray.mk #[47]) 11) (ByteArray.mk #[43]) 8 (ByteArray.mk #[45]) 9
    if isP (ByteArray.mk #[45]) st = true then bnd (q2a (ByteArray.mk #[45]) st) fun s1 => bnd (negP n s1) fun r => .ok (tk 7 [r.1], (r.2.1, r.2.2 - 1))
    else
      let qB8 : PR GTree :=
        if (hdT st.1).Kind = 3 then bnd (numP decB st) fun r => .ok ({ GTree.zero with Kind := 1, Num := r.1 }, r.2)
        else if isP (ByteArray.mk #[116, 105, 109, 101]) st = true then .ok (tk 5 [], q0i st)
        else if isP (ByteArray.mk #[100, 101, 114]) st = true then derP st
        else if isP (ByteArray.mk #[40]) st = true then bnd (q2a (ByteArray.mk #[40]) st) fun s1 => bnd (q8i s1) fun r => bnd (q1q [(ByteArray.mk #[41])] r.2) fun s2 => .ok (r.1, s2)
        else if (hdT st.1).Kind = 2 then
          (if fnIx (hdT st.1).S < 0 then .error (qE2 st)
           else bnd (q2a (ByteArray.mk #[40]) (q0i st)) fun s1 => bnd (q8i s1) fun r => bnd (q1q [(ByteArray.mk #[41])] r.2) fun s2 => .ok ({ GTree.zero with Kind := 6, N := fnIx (hdT st.1).S, Kids := [r.1] }, s2))
        else refP st
      bnd qB8 fun r =>
        if isP (ByteArray.mk #[94]) r.2 = true then bnd (q6m (q0i r.2)) fun q => .ok ({ GTree.zero with Kind := 12, N := q.1, Kids := [r.1] }, q.2) else .ok r
def q8i (n : Nat) : PS -> PR GTree := q9q (q9q (negP n) (ByteArray.mk #[42]) 10 (ByteArray.mk #[47]) 11) (ByteArray.mk #[43]) 8 (ByteArray.mk #[45]) 9
def mulP (n : Nat) : PS -> PR GTree := q9q (negP n) (ByteArray.mk #[42]) 10 (ByteArray.mk #[47]) 11
def upP (mk : Int -> Int -> GRat) : Nat -> PS -> PR GTree
  | 0, _ => .error (0, 0)
  | n + 1, st =>
    let first : PR GTree :=
      if isP (ByteArray.mk #[40]) st = true then bnd (q2a (ByteArray.mk #[40]) st) fun s1 => bnd (q9q (upP mk n) (ByteArray.mk #[42]) 22 (ByteArray.mk #[47]) 23 s1) fun r => bnd (q1q [(ByteArray.mk #[41])] r.2) fun s2 => .ok (r.1, s2)
      else if (hdT st.1).Kind = 3 then bnd (numP qPm st) fun r => .ok (tk 20 [], r.2)
      else bnd (q7v st) fun r => .ok ({ GTree.zero with Kind := 21, Name := r.1 }, r.2)
    bnd first fun r =>
      if isP (ByteArray.mk #[94]) r.2 = true then
        (let s1 := q0i r.2
         if isP (ByteArray.mk #[40]) s1 = true then bnd (q2a (ByteArray.mk #[40]) s1) fun s2 => bnd (q6m s2) fun a => bnd (q0u (ByteArray.mk #[47]) a.2) fun s3 => bnd (numP denB s3) fun d => bnd (q1q [(ByteArray.mk #[41])] d.2) fun s4 => .ok ({ GTree.zero with Kind := 24, Num := mk a.1 d.1.N, Kids := [r.1] }, s4)
         else bnd (q6m s1) fun a => .ok ({ GTree.zero with Kind := 24, Num := ⟨a.1, 1⟩, Kids := [r.1] }, a.2))
      else .ok r
def dimP (mk : Int -> Int -> GRat) (n : Nat) : PS -> PR GTree := q9q (upP mk n) (ByteArray.mk #[42]) 22 (ByteArray.mk #[47]) 23
section
variable (mk : Int -> Int -> GRat)
def qJu (st : PS) : PR GTree := if isP (ByteArray.mk #[58]) st = true then bnd (dimP mk 62 (q0i st)) fun r => .ok (tk 41 [r.1], r.2) else .ok (tk 41 [], st)
def qC1 (st : PS) : PR Int := if isP (ByteArray.mk #[91]) st = true then bnd (intP (q0i st)) fun r => bnd (q0u (ByteArray.mk #[93]) r.2) fun s1 => .ok (r.1, s1) else .ok (0, st)
def qJv : Nat -> List GTree -> PS -> PR (List GTree)
  | 0, _, _ => .error (0, 0)
  | n + 1, ks, st => bnd (q7v st) fun v => bnd (q0u (ByteArray.mk #[61]) v.2) fun s1 => bnd (q8i 62 s1) fun e =>
    (let ks' := ks ++ [{ GTree.zero with Kind := 36, Name := v.1, Kids := [e.1] }]
     if isP (ByteArray.mk #[44]) e.2 = true then qJv n ks' (q0i e.2) else .ok (ks', e.2))
def qKy (st : PS) : PR GTree := bnd (q7v st) fun v => bnd (qC1 v.2) fun n => bnd (q0u (ByteArray.mk #[58]) n.2) fun s1 => bnd (q7v s1) fun a =>
  (let t : GTree := { GTree.zero with Kind := 35, Name := v.1, N := n.1, Alias := a.1 }
   if isP (ByteArray.mk #[40]) a.2 = true then bnd (q2a (ByteArray.mk #[40]) a.2) fun s2 => bnd (qJv (s2.1.length + 1) [] s2) fun ks => bnd (q1q [(ByteArray.mk #[41])] ks.2) fun s3 => .ok ({ t with Kids := ks.1 }, s3)
   else .ok (t, a.2))
def qDp (st : PS) : PR GTree := bnd (if isP (ByteArray.mk #[100, 101, 114]) st = true then derP st else refP st) fun o =>
 if isP (ByteArray.mk #[61]) o.2 = true then bnd (q8i 62 (q0i o.2)) fun e => .ok (tk 37 [o.1, e.1, e.1], e.2)
 else bnd (qA3 [(ByteArray.mk #[105, 110]), (ByteArray.mk #[91])] o.2) fun s1 => bnd (q8i 62 s1) fun a => bnd (q0u (ByteArray.mk #[44]) a.2) fun s2 => bnd (q8i 62 s2) fun b => bnd (q0u (ByteArray.mk #[93]) b.2) fun s3 => .ok (tk 37 [o.1, a.1, b.1], s3)
def q8b (rule : PS -> PR GTree) : Nat -> List GTree -> PS -> PR (List GTree)
 | 0, _, _ => .error (0, 0)
 | n + 1, ks, st => if isP (ByteArray.mk #[101, 110, 100]) st = true then .ok (ks, st) else bnd (rule st) fun r => q8b rule n (ks ++ [r.1]) r.2
def qDh : Nat -> PS -> PR GTree
 | 0, _ => .error (0, 0)
 | n + 1, st =>
  if isP (ByteArray.mk #[99, 111, 110, 110, 101, 99, 116]) st = true then bnd (q2a (ByteArray.mk #[40]) (q0i st)) fun s1 => bnd (refP s1) fun a => bnd (q0u (ByteArray.mk #[44]) a.2) fun s2 => bnd (refP s2) fun b => bnd (q1q [(ByteArray.mk #[41]), (ByteArray.mk #[59])] b.2) fun s3 => .ok (tk 38 [a.1, b.1], s3)
  else if isP (ByteArray.mk #[102, 111, 114]) st = true then bnd (q2a (ByteArray.mk #[102, 111, 114]) st) fun s1 => bnd (q7v s1) fun v => bnd (q0u (ByteArray.mk #[105, 110]) v.2) fun s2 => bnd (intP s2) fun a => bnd (q0u (ByteArray.mk #[46, 46]) a.2) fun s3 => bnd (intP s3) fun b => bnd (q0u (ByteArray.mk #[100, 111]) b.2) fun s4 =>
   bnd (q8b (qDh n) (s4.1.length + 1) [] s4) fun ks => bnd (q1q [(ByteArray.mk #[101, 110, 100]), (ByteArray.mk #[59])] ks.2) fun s5 => .ok ({ GTree.zero with Kind := 40, Name := v.1, N := a.1, M := b.1, Kids := ks.1 }, s5)
  else bnd (q8i 62 st) fun a => bnd (q0u (ByteArray.mk #[61]) a.2) fun s1 => bnd (q8i 62 s1) fun b => bnd (q0u (ByteArray.mk #[59]) b.2) fun s2 => .ok (tk 39 [a.1, b.1], s2)
def qFo (st : PS) : PR GTree :=
 if isP (ByteArray.mk #[112, 97, 114, 97, 109]) st = true then bnd (q7v (q0i st)) fun v => bnd (qJu mk v.2) fun d => bnd (q0u (ByteArray.mk #[61]) d.2) fun s1 => bnd (q8i 62 s1) fun e => bnd (q0u (ByteArray.mk #[59]) e.2) fun s2 => .ok ({ GTree.zero with Kind := 33, Name := v.1, Kids := [d.1, e.1] }, s2)
 else if isP (ByteArray.mk #[118, 97, 114]) st = true \/ isP (ByteArray.mk #[102, 108, 111, 119]) st = true then bnd (q7v (q0i st)) fun v => bnd (qC1 v.2) fun n => bnd (qJu mk n.2) fun d => bnd (q0u (ByteArray.mk #[59]) d.2) fun s1 => .ok ({ GTree.zero with Kind := 34, Flag := isP (ByteArray.mk #[102, 108, 111, 119]) st, Name := v.1, N := n.1, Kids := [d.1] }, s1)
 else if isP (ByteArray.mk #[112, 97, 114, 116]) st = true then bnd (qKy (q0i st)) fun t => bnd (q0u (ByteArray.mk #[59]) t.2) fun s1 => .ok (t.1, s1)
 else if isP (ByteArray.mk #[115, 116, 97, 114, 116]) st = true then bnd (qDp (q0i st)) fun t => bnd (q0u (ByteArray.mk #[59]) t.2) fun s1 => .ok (t.1, s1)
 else qDh 62 st
def qGj : Nat -> List GTree -> PS -> PR (List GTree)
 | 0, _, _ => .error (0, 0)
 | n + 1, ks, st => if isP (ByteArray.mk #[101, 110, 100]) st = true then .ok (ks, q0i st) else bnd (qFo mk st) fun r => qGj n (ks ++ [r.1]) r.2
def qC2 (k : Int) (st : PS) : PR GTree := bnd (q7v st) fun v => bnd (qGj mk (v.2.1.length + 1) [] v.2) fun ks => bnd (q0u (ByteArray.mk #[59]) ks.2) fun s1 => .ok ({ GTree.zero with Kind := 32, N := k, Name := v.1, Kids := ks.1 }, s1)
def qRa (st : PS) : PR GTree := bnd (q7v st) fun v =>
 if isP (ByteArray.mk #[61]) v.2 = true then bnd (dimP mk 62 (q0i v.2)) fun d => bnd (q0u (ByteArray.mk #[59]) d.2) fun s1 => .ok ({ GTree.zero with Kind := 31, Name := v.1, Kids := [d.1] }, s1)
 else bnd (q0u (ByteArray.mk #[59]) v.2) fun s1 => .ok ({ GTree.zero with Kind := 31, Name := v.1 }, s1)
def q6x : Nat -> List GTree -> PS -> PR (List GTree)
 | 0, _, _ => .error (0, 0)
 | n + 1, ks, st =>
  if (hdT st.1).Kind = 0 then .ok (ks, st)
  else if isP (ByteArray.mk #[117, 110, 105, 116]) st = true then bnd (qRa mk (q0i st)) fun u => q6x n (ks ++ [u.1]) u.2
  else if isP (ByteArray.mk #[109, 111, 100, 101, 108]) st = true then bnd (qC2 mk 1 (q0i st)) fun c => q6x n (ks ++ [c.1]) c.2
  else if isP (ByteArray.mk #[99, 111, 110, 110, 101, 99, 116, 111, 114]) st = true then bnd (qC2 mk 2 (q0i st)) fun c => q6x n (ks ++ [c.1]) c.2
  else .error (qE2 st)
def qIc (st : PS) : PR GTree := bnd (q6x mk (st.1.length + 1) [] st) fun ks => .ok (tk 30 ks.1, ks.2)
end
end Go.Sim.YtifjflhnfjhijaaGreatDoor

/- What is proved: what is read goes on through the tokens, never past the last one, and closes what it opens. -/
namespace Go.Sim.YtifjflhnfjhijaaGreatDoor
open Go.RowKit Go.Proofs Go.Proofs.Tryz
def EndT (ts : List GToken) : Prop := ∃ pre e, ts = pre ++ [e] /\ e.Kind = 0
def Onw (k : Int) (d : Nat) (a b : PS) : Prop := EndT a.1 -> EndT b.1 /\ (∃ pre, a.1 = pre ++ b.1) /\ b.2 = a.2 + k /\ b.1.length + d <= a.1.length
theorem Onw.refl (a : PS) : Onw 0 0 a a := fun h => ⟨h, ⟨[], rfl⟩, by omega, by omega⟩
theorem Onw.trans {k m : Int} {d e : Nat} {a b c : PS} (h : Onw k d a b) (g : Onw m e b c) : Onw (k + m) (d + e) a c := fun ha => by
 obtain ⟨h1, ⟨p, h2⟩, h3, h4⟩ := h ha
 obtain ⟨g1, ⟨q, g2⟩, g3, g4⟩ := g h1
 exact ⟨g1, ⟨p ++ q, by rw [h2, g2, List.append_assoc]⟩, by omega, by omega⟩
theorem Onw.le {k : Int} {d e : Nat} {a b : PS} (h : Onw k d a b) (he : e <= d) : Onw k e a b := fun ha => by
 obtain ⟨h1, h2, h3, h4⟩ := h ha
 exact ⟨h1, h2, h3, by omega⟩
theorem Onw.cast {k m : Int} {d : Nat} {a b : PS} (h : Onw k d a b) (e : k = m) : Onw m d a b := e ▸ h
theorem Onw.opn {k : Int} {d : Nat} {a b : PS} (h : Onw k d a b) (m : Int) : Onw (k + m) d a (b.1, b.2 + m) := fun ha => by
 obtain ⟨h1, h2, h3, h4⟩ := h ha
 exact ⟨h1, h2, by show b.2 + m = _; omega, h4⟩
theorem qC3 {a : PS} (h : (hdT a.1).Kind ≠ 0) : Onw 0 1 a (q0i a) := by
 rintro ⟨pre, e, h1, h2⟩
 obtain ⟨ts, op⟩ := a
 simp only at h1 h
 subst h1
 cases pre with
 | nil => exact absurd h2 h
 | cons t pre => exact ⟨⟨pre, e, rfl, h2⟩, ⟨[t], rfl⟩, by show op = op + 0; omega, by simp [q0i]⟩
theorem qVg {a : PS} {w : ByteArray} (h : isP w a = true) : (hdT a.1).Kind ≠ 0 := by
 unfold isP isT at h
 simp only [Bool.and_eq_true, Bool.or_eq_true, beq_iff_eq] at h
 omega
theorem q13 {a : PS} {w : ByteArray} (h : isP w a = true) : Onw 0 1 a (q0i a) := qC3 (qVg h)
def OkP {α : Type} (S : α -> Prop) (x : Except PE α) : Prop := ∀ a, x = .ok a -> S a
theorem OkP.bnd {α β : Type} {S : α -> Prop} {T : β -> Prop} {x : Except PE α} {f : α -> Except PE β} (h : OkP S x) (k : ∀ a, S a -> OkP T (f a)) : OkP T (Sim.YtifjflhnfjhijaaGreatDoor.bnd x f) := by
 intro b hb
 obtain ⟨a, h1, h2⟩ := qA2.1 hb
 exact k a (h a h1) b h2
theorem OkP.pure {α : Type} {S : α -> Prop} {a : α} (h : S a) : OkP S (.ok a) := fun _ e => by cases e; exact h
theorem OkP.err {α : Type} {S : α -> Prop} {e : PE} : OkP S (.error e) := fun _ h => by cases h
theorem OkP.ite {α : Type} {S : α -> Prop} {c : Prop} [Decidable c] {x y : Except PE α} (h1 : c -> OkP S x) (h2 : ¬ c -> OkP S y) : OkP S (if c then x else y) := by
 split
 ·exact h1 (by assumption)
 ·exact h2 (by assumption)
abbrev Vg {α : Type} (k : Int) (d : Nat) (a : PS) : α × PS -> Prop := fun r => Onw k d a r.2
theorem q09 (w : ByteArray) (a : PS) : OkP (Onw 0 1 a) (q0u w a) := OkP.ite (fun h => .pure (q13 h)) fun _ => .err
theorem qD4 : ∀ (l : List ByteArray) (a : PS), OkP (Onw 0 l.length a) (qA3 l a)
 | [], a => .pure (Onw.refl a)
 | w :: l, a => (q09 w a).bnd fun b h => fun c hc => ((h.trans (qD4 l b c hc)).cast (by omega)).le (by simp <;> omega)
theorem q0s (w : ByteArray) (a : PS) : OkP (Onw 1 1 a) (q2a w a) := OkP.ite (fun _ => .err) fun _ => (q09 w a).bnd fun _ h => .pure ((h.opn 1).cast (by omega))
theorem q1k (l : List ByteArray) (a : PS) : OkP (Onw (-1) l.length a) (q1q l a) := (qD4 l a).bnd fun _ h => .pure ((h.opn (-1)).cast (by omega))
theorem q0q (a : PS) : OkP (Vg 0 1 a) (q7v a) := OkP.ite (fun h => .pure (qC3 (by omega))) fun _ => .err
theorem q8y (so : GRat -> Bool) (a : PS) : OkP (Vg 0 1 a) (numP so a) := OkP.ite (fun h => OkP.ite (fun _ => .pure (qC3 (by omega))) fun _ => .err) fun _ => .err
theorem q6y (a : PS) : OkP (Vg 0 1 a) (intP a) := (q8y _ a).bnd fun _ h => .pure h
theorem q7j (a : PS) : OkP (Vg 0 1 a) (q6m a) := OkP.ite (fun h => (q8y _ _).bnd fun _ g => .pure (((q13 h).trans g).le (by omega))) fun _ => (q8y _ a).bnd fun _ h => .pure h
theorem qM7 (a : PS) : OkP (Vg 0 1 a) (elP a) := (q0q a).bnd fun r h1 => OkP.ite (fun hb =>
    have h2 := h1.trans (q13 hb)
    OkP.ite (fun _ => (q6y _).bnd fun _ h3 => (q09 _ _).bnd fun _ h4 => .pure (((h2.trans h3).trans h4).le (by omega)))
      fun _ => (q0q _).bnd fun v h3 => OkP.ite (fun hp => (q6y _).bnd fun _ h5 => (q09 _ _).bnd fun _ h6 => .pure ((((h2.trans h3).trans (q13 hp)).trans h5 |>.trans h6).le (by omega)))
        fun _ => OkP.ite (fun hp => (q6y _).bnd fun _ h5 => (q09 _ _).bnd fun _ h6 => .pure ((((h2.trans h3).trans (q13 hp)).trans h5 |>.trans h6).le (by omega)))
          fun _ => (q09 _ _).bnd fun _ h6 => .pure (((h2.trans h3).trans h6).le (by omega)))
  fun _ => .pure h1
theorem qUe : ∀ (n : Nat) (ks : List GTree) (a : PS), OkP (Vg 0 0 a) (elsP n ks a)
 | 0, _, _ => .err
 | n + 1, ks, a => OkP.ite (fun h => (qM7 _).bnd fun r h2 => fun c hc => (((q13 h).trans h2).trans (qUe n _ _ c hc)).le (by omega)) fun _ => .pure (Onw.refl a)
theorem q6n (a : PS) : OkP (Vg 0 1 a) (refP a) := (qM7 a).bnd fun _ h => (qUe _ _ _).bnd fun _ h2 => .pure ((h.trans h2).le (by omega))
theorem qId (a : PS) : OkP (Vg 0 1 a) (derP a) := (q09 _ a).bnd fun _ h => (q0s _ _).bnd fun _ h2 => (q6n _).bnd fun _ h3 => (q1k _ _).bnd fun _ h4 => .pure ((((h.trans h2).trans h3).trans h4 |>.cast (by omega)).le (by simp <;> omega))
theorem qRb {part : PS -> PR GTree} (hp : ∀ a, OkP (Vg 0 1 a) (part a)) (one : ByteArray) (k : Int) (other : ByteArray) (k2 : Int) : ∀ (n : Nat) (x : GTree) (a : PS), OkP (Vg 0 0 a) (rowP part one k other k2 n x a)
  | 0, _, _ => .err
  | n + 1, x, a => OkP.ite (fun h => (hp _).bnd fun r h2 => fun c hc => (((q13 h).trans h2).trans (qRb hp one k other k2 n _ _ c hc)).le (by omega))
      fun _ => OkP.ite (fun h => (hp _).bnd fun r h2 => fun c hc => (((q13 h).trans h2).trans (qRb hp one k other k2 n _ _ c hc)).le (by omega)) fun _ => .pure (Onw.refl a)
theorem q7e {part : PS -> PR GTree} (hp : ∀ a, OkP (Vg 0 1 a) (part a)) (one : ByteArray) (k : Int) (other : ByteArray) (k2 : Int) (a : PS) : OkP (Vg 0 1 a) (q9q part one k other k2 a) :=
 (hp a).bnd fun _ h => fun c hc => (h.trans (qRb hp one k other k2 _ _ _ c hc)).le (by omega)
theorem q9g : ∀ (n : Nat) (a : PS), OkP (Vg 0 1 a) (negP n a)
 | 0, _ => .err
 | n + 1, a => by
  have ih := q9g n
  have he : ∀ a, OkP (Vg 0 1 a) (q9q (q9q (negP n) (ByteArray.mk #[42]) 10 (ByteArray.mk #[47]) 11) (ByteArray.mk #[43]) 8 (ByteArray.mk #[45]) 9 a) := q7e (q7e ih _ _ _ _) _ _ _ _
  unfold negP
  refine OkP.ite (fun _ => (q0s _ _).bnd fun _ h => (ih _).bnd fun _ h2 => .pure ((((h.trans h2).opn (-1)).cast (by omega)).le (by omega))) fun _ => ?_
  refine OkP.bnd (S := Vg 0 1 a) ?_ fun r h => OkP.ite (fun hb => (q7j _).bnd fun _ h2 => .pure (((h.trans (q13 hb)).trans h2).le (by omega))) fun _ => .pure h
  refine OkP.ite (fun _ => (q8y _ _).bnd fun _ h => .pure h) fun _ => OkP.ite (fun h => .pure (q13 h)) fun _ => OkP.ite (fun _ => qId a) fun _ => OkP.ite (fun _ => ?_) fun _ => OkP.ite (fun hk => OkP.ite (fun _ => .err) fun _ => ?_) fun _ => q6n a
  ·exact (q0s _ _).bnd fun _ h => (he _).bnd fun _ h2 => (q1k _ _).bnd fun _ h3 => .pure (((h.trans h2).trans h3 |>.cast (by omega)).le (by simp <;> omega))
  ·exact (q0s _ _).bnd fun _ h => (he _).bnd fun _ h2 => (q1k _ _).bnd fun _ h3 => .pure (((((qC3 (by omega)).trans h).trans h2).trans h3 |>.cast (by omega)).le (by simp <;> omega))
theorem qM8 (n : Nat) (a : PS) : OkP (Vg 0 1 a) (mulP n a) := q7e (q9g n) _ _ _ _ a
theorem q15 (n : Nat) (a : PS) : OkP (Vg 0 1 a) (q8i n a) := q7e (q7e (q9g n) _ _ _ _) _ _ _ _ a
variable (mk : Int -> Int -> GRat)
theorem qIe : ∀ (n : Nat) (a : PS), OkP (Vg 0 1 a) (upP mk n a)
  | 0, _ => .err
  | n + 1, a => by
    have ih := qIe n
    unfold upP
    refine OkP.bnd (S := Vg 0 1 a) ?_ fun r h => ?_
    · exact OkP.ite (fun _ => (q0s _ _).bnd fun _ h => (q7e ih _ _ _ _ _).bnd fun _ h2 => (q1k _ _).bnd fun _ h3 => .pure (((h.trans h2).trans h3 |>.cast (by omega)).le (by simp <;> omega)))
        fun _ => OkP.ite (fun _ => (q8y _ _).bnd fun _ h => .pure h) fun _ => (q0q _).bnd fun _ h => .pure h
    · refine OkP.ite (fun hb => OkP.ite (fun _ => ?_) fun _ => (q7j _).bnd fun _ h2 => .pure (((h.trans (q13 hb)).trans h2).le (by omega))) fun _ => .pure h
      exact (q0s _ _).bnd fun _ h1 => (q7j _).bnd fun _ h2 => (q09 _ _).bnd fun _ h3 => (q8y _ _).bnd fun _ h4 => (q1k _ _).bnd fun _ h5 => .pure (((((((h.trans (q13 hb)).trans h1).trans h2).trans h3).trans h4).trans h5 |>.cast (by omega)).le (by simp <;> omega))
theorem qGk (n : Nat) (a : PS) : OkP (Vg 0 1 a) (dimP mk n a) := q7e (qIe mk n) _ _ _ _ a
theorem qC4 (a : PS) : OkP (Vg 0 0 a) (qJu mk a) := OkP.ite (fun h => (qGk mk _ _).bnd fun _ h2 => .pure (((q13 h).trans h2).le (by omega))) fun _ => .pure (Onw.refl a)
theorem q9h (a : PS) : OkP (Vg 0 0 a) (qC1 a) := OkP.ite (fun h => (q6y _).bnd fun _ h2 => (q09 _ _).bnd fun _ h3 => .pure ((((q13 h).trans h2).trans h3).le (by omega))) fun _ => .pure (Onw.refl a)
theorem qNi : ∀ (n : Nat) (ks : List GTree) (a : PS), OkP (Vg 0 1 a) (qJv n ks a)
 | 0, _, _ => .err
 | n + 1, ks, a => (q0q a).bnd fun _ h1 => (q09 _ _).bnd fun _ h2 => (q15 _ _).bnd fun _ h3 => OkP.ite (fun hb => fun c hc => ((((h1.trans h2).trans h3).trans (q13 hb)).trans (qNi n _ _ c hc)).le (by omega)) fun _ => .pure (((h1.trans h2).trans h3).le (by omega))
theorem qNj (a : PS) : OkP (Vg 0 1 a) (qKy a) := (q0q a).bnd fun _ h1 => (q9h _).bnd fun _ h2 => (q09 _ _).bnd fun _ h3 => (q0q _).bnd fun _ h4 =>
 OkP.ite (fun _ => (q0s _ _).bnd fun _ h5 => (qNi _ _ _).bnd fun _ h6 => (q1k _ _).bnd fun _ h7 => .pure (((((((h1.trans h2).trans h3).trans h4).trans h5).trans h6).trans h7 |>.cast (by omega)).le (by simp <;> omega))) fun _ => .pure ((((h1.trans h2).trans h3).trans h4).le (by omega))
theorem qHg (a : PS) : OkP (Vg 0 1 a) (qDp a) := OkP.bnd (S := Vg 0 1 a) (OkP.ite (fun _ => qId a) fun _ => q6n a) fun _ h => OkP.ite (fun hb => (q15 _ _).bnd fun _ h2 => .pure (((h.trans (q13 hb)).trans h2).le (by omega)))
 fun _ => (qD4 _ _).bnd fun _ h1 => (q15 _ _).bnd fun _ h2 => (q09 _ _).bnd fun _ h3 => (q15 _ _).bnd fun _ h4 => (q09 _ _).bnd fun _ h5 => .pure ((((((h.trans h1).trans h2).trans h3).trans h4).trans h5 |>.cast (by omega)).le (by simp <;> omega))
theorem qOp {rule : PS -> PR GTree} (hp : ∀ a, OkP (Vg 0 1 a) (rule a)) : ∀ (n : Nat) (ks : List GTree) (a : PS), OkP (Vg 0 0 a) (q8b rule n ks a)
 | 0, _, _ => .err
 | n + 1, ks, a => OkP.ite (fun _ => .pure (Onw.refl a)) fun _ => (hp a).bnd fun _ h => fun c hc => (h.trans (qOp hp n _ _ c hc)).le (by omega)
theorem qIf : ∀ (n : Nat) (a : PS), OkP (Vg 0 1 a) (qDh n a)
  | 0, _ => .err
  | n + 1, a => by
    unfold qDh
    refine OkP.ite (fun hb => ?_) fun _ => OkP.ite (fun _ => ?_) fun _ => ?_
    · exact (q0s _ _).bnd fun _ h1 => (q6n _).bnd fun _ h2 => (q09 _ _).bnd fun _ h3 => (q6n _).bnd fun _ h4 => (q1k _ _).bnd fun _ h5 => .pure ((((((q13 hb).trans h1).trans h2).trans h3).trans h4 |>.trans h5 |>.cast (by omega)).le (by simp <;> omega))
    · exact (q0s _ _).bnd fun _ h1 => (q0q _).bnd fun _ h2 => (q09 _ _).bnd fun _ h3 => (q6y _).bnd fun _ h4 => (q09 _ _).bnd fun _ h5 => (q6y _).bnd fun _ h6 => (q09 _ _).bnd fun _ h7 => (qOp (qIf n) _ _ _).bnd fun _ h8 => (q1k _ _).bnd fun _ h9 =>
        .pure (((((((((h1.trans h2).trans h3).trans h4).trans h5).trans h6).trans h7).trans h8).trans h9 |>.cast (by omega)).le (by simp <;> omega))
    · exact (q15 _ _).bnd fun _ h1 => (q09 _ _).bnd fun _ h2 => (q15 _ _).bnd fun _ h3 => (q09 _ _).bnd fun _ h4 => .pure ((((h1.trans h2).trans h3).trans h4).le (by omega))
theorem qKz (a : PS) : OkP (Vg 0 1 a) (qFo mk a) := by
 unfold qFo
 refine OkP.ite (fun hb => ?_) fun _ => OkP.ite (fun hb => ?_) fun _ => OkP.ite (fun hb => ?_) fun _ => OkP.ite (fun hb => ?_) fun _ => qIf _ a
 ·exact (q0q _).bnd fun _ h1 => (qC4 mk _).bnd fun _ h2 => (q09 _ _).bnd fun _ h3 => (q15 _ _).bnd fun _ h4 => (q09 _ _).bnd fun _ h5 => .pure ((((((q13 hb).trans h1).trans h2).trans h3).trans h4 |>.trans h5).le (by omega))
 ·have hg : Onw 0 1 a (q0i a) := hb.elim q13 q13
  exact (q0q _).bnd fun _ h1 => (q9h _).bnd fun _ h2 => (qC4 mk _).bnd fun _ h3 => (q09 _ _).bnd fun _ h4 => .pure (((((hg.trans h1).trans h2).trans h3).trans h4).le (by omega))
 ·exact (qNj _).bnd fun _ h1 => (q09 _ _).bnd fun _ h2 => .pure ((((q13 hb).trans h1).trans h2).le (by omega))
 ·exact (qHg _).bnd fun _ h1 => (q09 _ _).bnd fun _ h2 => .pure ((((q13 hb).trans h1).trans h2).le (by omega))
theorem qOq : ∀ (n : Nat) (ks : List GTree) (a : PS), OkP (Vg 0 1 a) (qGj mk n ks a)
 | 0, _, _ => .err
 | n + 1, ks, a => OkP.ite (fun h => .pure (q13 h)) fun _ => (qKz mk a).bnd fun _ h => fun c hc => (h.trans (qOq n _ _ c hc)).le (by omega)
theorem qHh (k : Int) (a : PS) : OkP (Vg 0 1 a) (qC2 mk k a) := (q0q a).bnd fun _ h1 => (qOq mk _ _ _).bnd fun _ h2 => (q09 _ _).bnd fun _ h3 => .pure (((h1.trans h2).trans h3).le (by omega))
theorem qVh (a : PS) : OkP (Vg 0 1 a) (qRa mk a) := (q0q a).bnd fun _ h1 => OkP.ite (fun hb => (qGk mk _ _).bnd fun _ h2 => (q09 _ _).bnd fun _ h3 => .pure ((((h1.trans (q13 hb)).trans h2).trans h3).le (by omega))) fun _ => (q09 _ _).bnd fun _ h2 => .pure ((h1.trans h2).le (by omega))
end Go.Sim.YtifjflhnfjhijaaGreatDoor
