/- What is proved: the parser's small methods read what the plain functions read. -/
import Derived.Test.YtifjflhnfjhijaaGreatDoorZPSWPq
import Derived.Test.YtifjflhnfjhijaaGreatDoorZPSWPv
import Derived.Test.YtifjflhnfjhijaaGreatDoorZPSParU
import Derived.Test.YtifjflhnfjhijaaGreatDoorZPSPureK

namespace Go.Sim.YtifjflhnfjhijaaGreatDoor
open Go.RowKit Go.Proofs Go.Proofs.Tryz
def boxP (L : List GToken) (s : PS) : Gparseparser := ⟨L, (L.length : Int) - (s.1.length : Int), s.2⟩
def cwP {α β : Type} (g : α -> β) : Except PE α -> Except Gparsestop β
 | .ok a => .ok (g a)
 | .error e => .error ⟨e.1, e.2⟩
abbrev cvP {α : Type} (L : List GToken) : PR α -> Except Gparsestop (α × Gparseparser) := cwP (fun r : α × PS => (r.1, boxP L r.2))
abbrev cuP (L : List GToken) : Except PE PS -> Except Gparsestop Gparseparser := cwP (boxP L)
structure Gd (L : List GToken) (s : PS) : Prop where
 suf : ∃ pre, L = pre ++ s.1
 fin : EndT s.1
 lo : 0 <= s.2
 hi : s.2 <= 60
 len : L.length <= 1000000
 tok : ∀ t ∈ L, TkOk t
structure Gn (L : List GToken) (d : Nat) (a b : PS) : Prop where
 g : Gd L b
 o : b.2 = a.2
 l : b.1.length + d <= a.1.length
variable {L : List GToken} {s : PS}
theorem Gd.ne (h : Gd L s) : ∃ t r, s.1 = t :: r := by
 obtain ⟨p, e, h1, _⟩ := h.fin
 cases hs : s.1 with
 | nil => rw [hs] at h1; simp at h1
 | cons t r => exact ⟨t, r, rfl⟩
theorem Gd.on {k : Int} {d : Nat} {b : PS} (h : Gd L s) (w : Onw k d s b) (h0 : 0 <= s.2 + k) (h1 : s.2 + k <= 60) : Gd L b := by
 obtain ⟨w1, ⟨p, w2⟩, w3, w4⟩ := w h.fin
 obtain ⟨q, hq⟩ := h.suf
 exact ⟨⟨q ++ p, by rw [hq, w2, List.append_assoc]⟩, w1, by omega, by omega, h.len, h.tok⟩
theorem Gd.gn {d : Nat} {b : PS} (h : Gd L s) (w : Onw 0 d s b) : Gn L d s b :=
 ⟨h.on w (by have := h.lo; omega) (by have := h.hi; omega), by have := (w h.fin).2.2.1; omega, (w h.fin).2.2.2⟩
theorem Gd.hd (h : Gd L s) : TkOk (hdT s.1) := by
 obtain ⟨t, r, hs⟩ := h.ne
 obtain ⟨p, hp⟩ := h.suf
 refine h.tok _ ?_
 rw [hp, hs]
 simp [hdT]
theorem Gd.le (h : Gd L s) : s.1.length <= L.length := by
 obtain ⟨p, hp⟩ := h.suf
 have := congrArg List.length hp
 rw [List.length_append] at this; omega
theorem Gd.wr (h : Gd L s) : IntKind.i64.wrap ((boxP L s).i_ + (1 : Int)) = (boxP L (q0i s)).i_ := by
 obtain ⟨t, r, hs⟩ := h.ne
 have hl := h.le
 have := h.len
 show IntKind.i64.wrap ((L.length : Int) - (s.1.length : Int) + 1) = (L.length : Int) - (s.1.tail.length : Int)
 rw [hs] at hl ⊢
 simp only [List.length_cons, List.tail_cons] at hl ⊢
 rw [wi (by omega) (by omega)]; omega
theorem Gd.next (h : Gd L s) (hk : (hdT s.1).Kind ≠ 0) : Gn L 1 s (q0i s) := h.gn (qC3 hk)
theorem cqX {α α' β γ : Type} {h : α -> α'} {g : β -> γ} {x : Except PE α} {f : α -> Except PE β} {T : Except Gparsestop γ} {R : Except Gparsestop α' -> Prop} {K : α' -> Prop}
    (hT : cwP g (bnd x f) = T) (hR : R (cwP h x)) (hk : ∀ r, x = .ok r -> cwP g (f r) = T -> K (h r)) : CallX R (fun e => .error e = T) K := by
  cases x with
  | ok a => exact ⟨_, hR, hk a rfl hT⟩
  | error e => exact ⟨_, hR, hT⟩
theorem cqV {α β γ : Type} {d : Nat} {g : β -> γ} {x : PR α} {f : α × PS -> Except PE β} {T : Except Gparsestop γ} {R : Except Gparsestop (α × Gparseparser) -> Prop} {K : α × Gparseparser -> Prop}
    (ga : Gd L s) (hT : cwP g (bnd x f) = T) (hR : R (cvP L x)) (ho : OkP (Vg 0 d s) x) (hk : ∀ (a : α) (b : PS), Gn L d s b -> cwP g (f (a, b)) = T -> K (a, boxP L b)) : CallX R (fun e => .error e = T) K :=
  cqX hT hR fun r hr ht => hk r.1 r.2 (ga.gn (ho r hr)) ht
theorem cqU {β γ : Type} {d : Nat} {g : β -> γ} {x : Except PE PS} {f : PS -> Except PE β} {T : Except Gparsestop γ} {R : Except Gparsestop Gparseparser -> Prop} {K : Gparseparser -> Prop}
    (ga : Gd L s) (hT : cwP g (bnd x f) = T) (hR : R (cuP L x)) (ho : OkP (Onw 0 d s) x) (hk : ∀ b, Gn L d s b -> cwP g (f b) = T -> K (boxP L b)) : CallX R (fun e => .error e = T) K :=
  cqX hT hR fun r hr ht => hk r (ga.gn (ho r hr)) ht
theorem qC7 (h : Gd L s) : q0c (boxP L s) (hdT s.1) := by
 refine qBu ?_
 unfold q6f
 obtain ⟨t, r, hs⟩ := h.ne
 obtain ⟨p, hp⟩ := h.suf
 show At L ((L.length : Int) - (s.1.length : Int)) _
 have e : (L.length : Int) - (s.1.length : Int) = (p.length : Int) := by
  have := congrArg List.length hp
  rw [List.length_append] at this; omega
 rw [e]
 refine ⟨by omega, t, ?_, ?_⟩
 ·rw [Int.toNat_natCast, hp, hs, List.getElem?_append_right (Nat.le_refl _), Nat.sub_self]; rfl
 ·rw [hs]; rfl
theorem qL1 (h : Gd L s) (w : ByteArray) : q0a (boxP L s) w (isP w s) := by
 refine qDa ?_
 unfold q79
 refine Call.mk (qC7 h) ?_
 have key : ((hdT s.1).S.toList == w.toList) = decide ((hdT s.1).S = w) := by rw [Bool.eq_iff_iff, q9p, decide_eq_true_iff]
 rw [key]
 unfold isP isT
 refine Br.e (fun e => ?_) fun e => Br.e (fun e2 => ?_) fun e2 => ?_
 ·rw [e]; simp
 ·rw [e2]; simp
 ·rw [beq_eq_false_iff_ne.2 e, beq_eq_false_iff_ne.2 e2]; simp
theorem qEq {w : ByteArray} (h : Gd L s) (hw : isP w s = true) : q02 (boxP L s) w (true, boxP L (q0i s)) := by
 refine q6w ?_
 unfold q32
 exact Call.mk (qL1 h w) (Br.t hw (Let.as _ h.wr rfl))
theorem qEr {w : ByteArray} (h : Gd L s) (hw : isP w s = false) : q02 (boxP L s) w (false, boxP L s) := by
 refine q6w ?_
 unfold q32
 exact Call.mk (qL1 h w) (Br.f hw rfl)
theorem qDj {γ β : Type} {g : β -> γ} {w : ByteArray} {y z : Except PE β} {T : Except Gparsestop γ} {A B : Bool × Gparseparser -> Prop} (h : Gd L s) (hT : cwP g (if isP w s = true then y else z) = T)
    (ht : Gn L 1 s (q0i s) -> isP w s = true -> cwP g y = T -> A (true, boxP L (q0i s))) (hf : isP w s = false -> cwP g z = T -> B (false, boxP L s)) : Call (q02 (boxP L s) w) fun x => Br x.1 (A x) (B x) := by
  cases hw : isP w s with
  | true => rw [if_pos hw] at hT; exact Call.mk (qEq h hw) (Br.t rfl (ht (h.gn (q13 hw)) hw hT))
  | false => rw [if_neg (by rw [hw]; decide)] at hT; exact Call.mk (qEr h hw) (Br.f rfl (hf hw hT))
theorem qRi {γ β : Type} {g : β -> γ} {w : ByteArray} {y z : Except PE β} {T : Except Gparsestop γ} {A B : Bool × Gparseparser -> Prop} (h : Gd L s) (hT : cwP g (if isP w s = true then y else z) = T)
    (ht : Gn L 1 s (q0i s) -> isP w s = true -> cwP g y = T -> A (true, boxP L (q0i s))) (hf : isP w s = false -> cwP g z = T -> B (false, boxP L s)) : Call (q02 (boxP L s) w) fun x => Br (!x.1) (B x) (A x) := by
  cases hw : isP w s with
  | true => rw [if_pos hw] at hT; exact Call.mk (qEq h hw) (Br.f rfl (ht (h.gn (q13 hw)) hw hT))
  | false => rw [if_neg (by rw [hw]; decide)] at hT; exact Call.mk (qEr h hw) (Br.t rfl (hf hw hT))
theorem isB {γ β : Type} {g : β -> γ} {w : ByteArray} {y z : Except PE β} {T : Except Gparsestop γ} {A B : Prop} (h : Gd L s) (hT : cwP g (if isP w s = true then y else z) = T)
    (ht : Gn L 1 s (q0i s) -> isP w s = true -> cwP g y = T -> A) (hf : isP w s = false -> cwP g z = T -> B) : Call (q0a (boxP L s) w) fun x => Br x A B := by
  refine Call.mk (qL1 h w) ?_
  cases hw : isP w s with
  | true => rw [if_pos hw] at hT; exact Br.t rfl (ht (h.gn (q13 hw)) hw hT)
  | false => rw [if_neg (by rw [hw]; decide)] at hT; exact Br.f rfl (hf hw hT)
theorem isNP {γ β : Type} {g : β -> γ} {w : ByteArray} {y z : Except PE β} {T : Except Gparsestop γ} {A B : Prop} (h : Gd L s) (hT : cwP g (if isP w s = true then y else z) = T)
    (ht : Gn L 1 s (q0i s) -> isP w s = true -> cwP g y = T -> A) (hf : isP w s = false -> cwP g z = T -> B) : Call (q0a (boxP L s) w) fun x => Br (!x) B A := by
  refine Call.mk (qL1 h w) ?_
  cases hw : isP w s with
  | true => rw [if_pos hw] at hT; exact Br.f rfl (ht (h.gn (q13 hw)) hw hT)
  | false => rw [if_neg (by rw [hw]; decide)] at hT; exact Br.t rfl (hf hw hT)
theorem qVl {γ β : Type} {g : β -> γ} {k : Int} {y z : Except PE β} {T : Except Gparsestop γ} {A B : GToken -> Prop} (h : Gd L s) (hT : cwP g (if (hdT s.1).Kind = k then y else z) = T)
    (ht : (hdT s.1).Kind = k -> cwP g y = T -> A (hdT s.1)) (hf : (hdT s.1).Kind ≠ k -> cwP g z = T -> B (hdT s.1)) : Call (q0c (boxP L s)) fun x => Br (x.Kind == k) (A x) (B x) := by
  refine Call.mk (qC7 h) (Br.e (fun e => ?_) fun e => ?_)
  · rw [if_pos e] at hT; exact ht e hT
  · rw [if_neg e] at hT; exact hf e hT
theorem qIh (h : Gd L s) : q14 (boxP L s) (cuP L (.error (qE2 s))) := by
 refine qBf ?_
 unfold q5f
 refine Call.mk (qC7 h) (Br.e (fun e => Call.mk (qC7 h) ?_) fun e => Call.mk (qC7 h) ?_)
 ·show _ = Except.error _
  unfold qE2; rw [if_pos e]
 ·show _ = Except.error _
  unfold qE2; rw [if_neg e]
theorem q6o (h : Gd L s) : q0d (boxP L s) (cvP L (q7v s)) := by
 refine qBd ?_
 unfold q5d
 refine Call.mk (qC7 h) ?_
 by_cases e : (hdT s.1).Kind = 1
 ·refine ⟨fun p => p = boxP L s, Br.f (by rw [e]; rfl) rfl, ?_⟩
  rintro _ rfl
  refine Let.as _ h.wr ?_
  show _ = cvP L (q7v s)
  unfold q7v; rw [if_pos e]; rfl
 ·refine ⟨fun _ => False, Br.t (bne_iff_ne.2 e) (CallX.er (qIh h) ?_), fun _ h => h.elim⟩
  show _ = cvP L (q7v s)
  unfold q7v; rw [if_neg e]; rfl
theorem qNm {l : List ByteArray} (h : Gd L s) (hl : l.length <= 1000) : q04 (boxP L s) l (cuP L (qA3 l s)) := by
 refine qBe ?_
 unfold q5e
 generalize hT : cuP L (qA3 l s) = T
 refine Loop2.up (s0 := boxP L s) l.length (fun j p => ∃ s', p = boxP L s' /\ Gd L s' /\ cuP L (qA3 (l.drop j) s') = T) ⟨s, rfl, h, by rw [List.drop_zero]; exact hT⟩ ?_
 rintro i _ k hi ⟨s', rfl, g, hT⟩ hk
 refine Br.d (fun hlt => ?_) fun hn => ?_
 ·have hlt : i < l.length := by omega
  refine At.nat hlt fun w hw => ?_
  have hd : l.drop i = w :: l.drop (i + 1) := by
   obtain ⟨h1, h2⟩ := List.getElem?_eq_some_iff.1 hw
   rw [List.drop_eq_getElem_cons h1, h2]
  rw [hd] at hT
  have hT : cuP L (bnd (q0u w s') (qA3 (l.drop (i + 1)))) = T := hT
  cases hb : isP w s' with
  | true =>
   have hm : q0u w s' = .ok (q0i s') := by unfold q0u; rw [if_pos hb]
   rw [hm] at hT
   exact Call.mk (qEq g hb) (Br.f rfl (Let.as _ (wi1 (by omega)) (hk _ (by omega) ⟨_, rfl, (g.gn (q13 hb)).g, hT⟩)))
  | false =>
   have hm : q0u w s' = .error (qE2 s') := by unfold q0u; rw [if_neg (by rw [hb]; decide)]
   rw [hm] at hT
   exact Call.mk (qEr g hb) (Br.t rfl (CallX.er (qIh g) hT))
 ·rw [show i = l.length by omega, List.drop_length] at hT
  exact hT
theorem qTe (w : ByteArray) (s : PS) : qA3 [w] s = q0u w s := by
 show bnd (q0u w s) (qA3 []) = _
 cases q0u w s <;> rfl
theorem qOr {w : ByteArray} (h : Gd L s) : q04 (boxP L s) [w] (cuP L (q0u w s)) := by
 rw [← qTe]; exact qNm h (by simp)
theorem qL2 (h : Gd L s) (w : ByteArray) : OkP (fun b => Gd L b /\ b.2 = s.2 + 1 /\ b.1.length + 1 <= s.1.length) (q2a w s) := by
 intro b hb
 have go := q0s w s b hb
 have hlo := h.lo
 have hlt : s.2 < 60 := by
  unfold q2a at hb
  split at hb
  ·cases hb
  ·rename_i hc
   have hi : isP w s = true := by
    obtain ⟨a, h1, _⟩ := qA2.1 hb
    unfold q0u at h1
    split at h1
    ·assumption
    ·cases h1
   have : ¬ 60 <= s.2 := fun hx => hc ⟨hi, hx⟩
   omega
 exact ⟨h.on go (by omega) (by omega), (go h.fin).2.2.1, (go h.fin).2.2.2⟩
theorem qTf (h : Gd L s) (w : ByteArray) : q0e (boxP L s) w (cuP L (q2a w s)) := by
 refine qAm ?_
 unfold q4p
 generalize hT : cuP L (q2a w s) = T
 unfold q2a at hT
 refine ⟨fun x => x = (isP w s && decide (60 <= s.2)), Call.mk (qL1 h w) ?_, ?_⟩
 ·cases hw : isP w s with
  | true => exact Br.t rfl rfl
  | false => exact Br.f rfl rfl
 ·rintro _ rfl
  by_cases hc : isP w s = true /\ 60 <= s.2
  ·rw [if_pos hc] at hT
   exact Br.t (by rw [hc.1]; simpa using hc.2) (Call.mk (qC7 h) hT)
  ·rw [if_neg hc] at hT
   refine Br.f (by rw [Bool.and_eq_false_iff, decide_eq_false_iff_not]; cases hw : isP w s with | true => exact .inr fun hx => hc ⟨hw, hx⟩ | false => exact .inl rfl) ?_
   refine cqU h hT (qOr h) (q09 w s) fun b g hT => ?_
   have h1 := g.g.hi
   have h2 := g.g.lo
   exact Let.as (b.2 + 1) (show IntKind.i64.wrap (b.2 + 1) = _ from wi (by omega) (by omega)) hT
theorem qTg {l : List ByteArray} (h : Gd L s) (hl : l.length <= 1000) : q0h (boxP L s) l (cuP L (q1q l s)) := by
 refine qAn ?_
 unfold q4q
 generalize hT : cuP L (q1q l s) = T
 unfold q1q at hT
 refine cqU h hT (qNm h hl) (qD4 l s) fun b g hT => ?_
 have h1 := g.g.hi
 have h2 := g.g.lo
 exact Let.as (b.2 - 1) (show IntKind.i64.wrap (b.2 - 1) = _ from wi (by omega) (by omega)) hT
theorem cqE {β γ : Type} {g : β -> γ} {w : ByteArray} {f : PS -> Except PE β} {T : Except Gparsestop γ} {K : Gparseparser -> Prop}
    (ga : Gd L s) (hT : cwP g (bnd (q2a w s) f) = T) (hk : ∀ b, Gd L b -> b.2 = s.2 + 1 -> b.1.length + 1 <= s.1.length -> cwP g (f b) = T -> K (boxP L b)) : CallX (q0e (boxP L s) w) (fun e => .error e = T) K :=
  cqX hT (qTf ga w) fun r hr ht => hk r (qL2 ga w r hr).1 (qL2 ga w r hr).2.1 (qL2 ga w r hr).2.2 ht
theorem cqL {β γ : Type} {g : β -> γ} {l : List ByteArray} {f : PS -> Except PE β} {T : Except Gparsestop γ} {K : Gparseparser -> Prop}
    (ga : Gd L s) (h1 : 1 <= s.2) (hl : l.length <= 1000) (hT : cwP g (bnd (q1q l s) f) = T) (hk : ∀ b, Gd L b -> b.2 = s.2 - 1 -> b.1.length + l.length <= s.1.length -> cwP g (f b) = T -> K (boxP L b)) : CallX (q0h (boxP L s) l) (fun e => .error e = T) K :=
  cqX hT (qTg ga hl) fun r hr ht => by
    have go := q1k l s r hr
    have h2 := ga.hi
    exact hk r (ga.on go (by omega) (by omega)) (go ga.fin).2.2.1 (go ga.fin).2.2.2 ht
theorem cqM {β γ : Type} {g : β -> γ} {w : ByteArray} {f : PS -> Except PE β} {T : Except Gparsestop γ} {K : Gparseparser -> Prop}
    (ga : Gd L s) (hT : cwP g (bnd (q0u w s) f) = T) (hk : ∀ b, Gn L 1 s b -> cwP g (f b) = T -> K (boxP L b)) : CallX (q04 (boxP L s) [w]) (fun e => .error e = T) K :=
  cqU ga hT (qOr ga) (q09 w s) hk
theorem qFp {f : DV} {so : GRat -> Bool} (h : Gd L s) (hf : ∀ a : GRat, qDi a -> FVal prog f [GRat.enc a] (.v (.bool (so a)))) : q0w (boxP L s) f (cvP L (numP so s)) := by
 refine q9z ?_
 unfold q47
 refine Call.mk (qC7 h) ?_
 have hn : qDi (hdT s.1).Num := h.hd.num
 generalize hT : cvP L (numP so s) = T
 unfold numP at hT
 by_cases e : (hdT s.1).Kind = 3
 ·rw [if_pos e] at hT
  refine ⟨fun p => p = boxP L s, Br.f (by rw [e]; rfl) rfl, ?_⟩
  rintro _ rfl
  refine Call.mk (hf _ hn) ?_
  cases hs : so (hdT s.1).Num with
  | true => rw [if_pos hs] at hT; exact Br.f rfl (Let.as _ h.wr hT)
  | false => rw [if_neg (by rw [hs]; decide)] at hT; exact Br.t rfl hT
 ·rw [if_neg e] at hT
  exact ⟨fun _ => False, Br.t (bne_iff_ne.2 e) (CallX.er (qIh h) hT), fun _ h => h.elim⟩
theorem qVm (a : GRat) : q45 a (intB a) := by
 refine qAr ?_
 unfold q4u intB
 cases h : (a.D == (1 : Int)) with
 | true => exact Br.t rfl (Bool.true_and _).symm
 | false => exact Br.f rfl (Bool.false_and _).symm
theorem qM9 (a : GRat) : q2z a (qGu a) := by
 refine q9n ?_
 unfold q3l qGu
 cases h : (a.D == (1 : Int)) with
 | true => exact Br.t rfl (Bool.true_and _).symm
 | false => exact Br.f rfl (Bool.false_and _).symm
theorem qY5 (a : GRat) : q4l a (qPm a) := qBh rfl
theorem qY6 (a : GRat) : q4m a (denB a) := by
 refine qBi ?_
 unfold q5h denB
 cases h : (a.D == (1 : Int)) with
 | true =>
  refine Br.t rfl ?_
  by_cases h2 : a.N >= 1
  ·exact Br.dT h2 (by rw [decide_eq_true h2]; rfl)
  ·exact Br.dF h2 (by rw [decide_eq_false h2]; rfl)
 | false => exact Br.f rfl rfl
theorem qKh (h : Gd L s) : q11 (boxP L s) (cvP L (intP s)) := by
 refine qBx ?_
 unfold q6i
 generalize hT : cvP L (intP s) = T
 unfold intP at hT
 exact cqV h hT (qFp h fun a _ => qAl (qVm a)) (q8y _ s) fun a b g hT => hT
theorem qMa {so : GRat -> Bool} {a : GRat} {b : PS} (h : Gd L s) (hn : numP so s = .ok (a, b)) : qDi a /\ so a = true := by
 unfold numP at hn
 split at hn
 ·split at hn
  ·cases hn; exact ⟨h.hd.num, by assumption⟩
  ·cases hn
 ·cases hn
theorem qL3 {a : GRat} (h : qGu a = true) : a.N <= 64 := by
 unfold qGu at h
 rw [Bool.and_eq_true, decide_eq_true_iff] at h
 exact h.2
theorem qOs (h : Gd L s) : OkP (fun r => -64 <= r.1 /\ r.1 <= 64) (q6m s) := by
 unfold q6m
 refine OkP.ite (fun hi => ?_) fun hi => ?_
 ·intro r hr
  obtain ⟨q, h1, h2⟩ := qA2.1 hr
  obtain ⟨h3, h4⟩ := qMa (h.gn (q13 hi)).g h1
  cases h2
  have := qL3 h4
  have := h3.nn
  dsimp only at *; omega
 ·intro r hr
  obtain ⟨q, h1, h2⟩ := qA2.1 hr
  obtain ⟨h3, h4⟩ := qMa h h1
  cases h2
  have := qL3 h4
  have := h3.nn
  dsimp only at *; omega
theorem qIi (h : Gd L s) : q1m (boxP L s) (cvP L (q6m s)) := by
 refine qAo ?_
 unfold q4r
 generalize hT : cvP L (q6m s) = T
 unfold q6m at hT
 cases hw : isP (ByteArray.mk #[45]) s with
 | true =>
  rw [if_pos hw] at hT
  have g := (h.gn (q13 hw)).g
  refine Call.mk (qEq h hw) (cqX hT (qFp g fun a _ => q54 (qM9 a)) fun r hr hT => ?_)
  obtain ⟨h3, h4⟩ := qMa (a := r.1) (b := r.2) g hr
  have h5 := qL3 h4
  have h6 : 0 <= r.1.N := h3.nn
  exact Br.t rfl (Let.as (-r.1.N) (show IntKind.i64.wrap (0 - r.1.N) = _ by rw [wi (by omega) (by omega)]; omega) hT)
 | false =>
  rw [if_neg (by rw [hw]; decide)] at hT
  exact Call.mk (qEr h hw) (cqX hT (qFp h fun a _ => q54 (qM9 a)) fun r hr hT => Br.f rfl hT)
theorem qMb : q65 [(ByteArray.mk #[]), (ByteArray.mk #[]), (ByteArray.mk #[]), (ByteArray.mk #[]), (ByteArray.mk #[]), (ByteArray.mk #[]), (ByteArray.mk #[]), (ByteArray.mk #[]), (ByteArray.mk #[]), (ByteArray.mk #[115, 113, 114, 116]), (ByteArray.mk #[101, 120, 112]), (ByteArray.mk #[108, 111, 103]), (ByteArray.mk #[115, 105, 110]), (ByteArray.mk #[99, 111, 115]), (ByteArray.mk #[97, 116, 97, 110])] := qDd rfl
theorem qMc {l : List ByteArray} {v : ByteArray} (hs : l.length <= 1000) : q3k l v (q3m (fun x => decide (v = x)) l) := by
 refine qA1 ?_
 unfold q48
 refine Loop1.first l (fun x => decide (v = x)) fun i k hi hP hk => ?_
 refine Br.d (fun hlt => ?_) fun hn => ?_
 ·refine At.nat (by omega) fun x hx => ?_
  have key : (v.toList == x.toList) = decide (v = x) := by rw [Bool.eq_iff_iff, q9p, decide_eq_true_iff]
  rw [key]
  exact Br.d (fun e => (qFi hx (decide_eq_true e) hP).symm) fun e => Let.as _ (wi1 (by omega)) (hk x hx (decide_eq_false e))
 ·exact (qFj fun j y hj hy => hP j y (by omega) hy).symm
end Go.Sim.YtifjflhnfjhijaaGreatDoor
