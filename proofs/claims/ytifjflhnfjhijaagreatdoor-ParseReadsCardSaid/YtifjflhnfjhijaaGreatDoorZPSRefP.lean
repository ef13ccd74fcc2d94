/- What is proved: the reference's parser steps as the plain one does; what is wrong stays wrong. -/
import Derived.Test.YtifjflhnfjhijaaGreatDoorZPSPevA
import Derived.Test.YtifjflhnfjhijaaGreatDoorZPSDetK

namespace Go.Sim.YtifjflhnfjhijaaGreatDoor
open Go.RowKit Go.Proofs Go.Proofs.Tryz
variable {L : List GToken} {α β γ : Type}
def bxR (L : List GToken) (s : PS) : Gref13P := ⟨L, (L.length : Int) - (s.1.length : Int), s.2, 0, 0⟩
def St13 (L : List GToken) (x : Except PE PS) (p : Gref13P) : Prop := match x with
 | .ok s => Gd L s /\ p = bxR L s
 | .error e => p.L = L /\ p.Bad = e.1 /\ p.At = e.2 /\ e.1 ≠ 0 /\ 0 <= p.I /\ p.I < (L.length : Int)
def stX (y : PR α) : Except PE PS := bnd y fun q => .ok q.2
def q3s (L : List GToken) (y : PR α) (r : α × Gref13P) : Prop := (∀ a s, y = .ok (a, s) -> r.1 = a) /\ St13 L (stX y) r.2
def Fol (k : Int) (d : Nat) (x y : Except PE PS) : Prop := ∀ b, y = .ok b -> ∃ a, x = .ok a /\ b.2 = a.2 + k /\ b.1.length + d <= a.1.length
theorem Fol.trans {k m : Int} {d e : Nat} {x y z : Except PE PS} (h : Fol k d x y) (g : Fol m e y z) : Fol (k + m) (d + e) x z := fun c hc => by
 obtain ⟨b, hb, h1, h2⟩ := g c hc
 obtain ⟨a, ha, h3, h4⟩ := h b hb
 exact ⟨a, ha, by omega, by omega⟩
theorem Fol.refl (x : Except PE PS) : Fol 0 0 x x := fun b hb => ⟨b, hb, by omega, by omega⟩
theorem Fol.ok {k : Int} {d : Nat} {a b : PS} (h : Fol k d (.ok a) (.ok b)) : b.2 = a.2 + k /\ b.1.length + d <= a.1.length := by
 obtain ⟨c, hc, h⟩ := h b rfl
 cases hc
 exact h
theorem St13.inr {x : Except PE PS} {p : Gref13P} (h : St13 L x p) : p.L = L /\ 0 <= p.I /\ p.I < (L.length : Int) := by
 cases x with
 | error e => obtain ⟨h1, _, _, _, h5, h6⟩ := h; exact ⟨h1, h5, h6⟩
 | ok s =>
  obtain ⟨g, rfl⟩ := h
  obtain ⟨t, r, hs⟩ := g.ne
  have := g.le
  rw [hs] at this
  simp only [List.length_cons] at this
  refine ⟨rfl, ?_, ?_⟩
  ·show 0 <= (L.length : Int) - (s.1.length : Int)
   rw [hs]; simp only [List.length_cons]; omega
  ·show (L.length : Int) - (s.1.length : Int) < _
   rw [hs]; simp only [List.length_cons]; omega
theorem St13.bad0 {s : PS} {p : Gref13P} (h : St13 L (.ok s) p) : p.Bad = 0 := by obtain ⟨_, rfl⟩ := h; rfl
theorem St13.badE {e : PE} {p : Gref13P} (h : St13 L (.error e) p) : p.Bad ≠ 0 := by obtain ⟨_, h2, _, h4, _⟩ := h; rw [h2]; exact h4
theorem Gd.wrR {s : PS} (h : Gd L s) : IntKind.i64.wrap ((bxR L s).I + (1 : Int)) = (bxR L (q0i s)).I := h.wr
theorem qL5 {s : PS} (h : Gd L s) {p : Gref13P} (h1 : p.L = L) (h2 : p.I = (L.length : Int) - (s.1.length : Int)) : q12 p (hdT s.1) := by
 refine qB9 ?_
 unfold q8j
 obtain ⟨t, r, hs⟩ := h.ne
 obtain ⟨q, hp⟩ := h.suf
 have e : (L.length : Int) - (s.1.length : Int) = (q.length : Int) := by
  have := congrArg List.length hp
  rw [List.length_append] at this; omega
 rw [h1, h2, e]
 refine ⟨by omega, t, ?_, ?_⟩
 ·rw [Int.toNat_natCast, hp, hs, List.getElem?_append_right (Nat.le_refl _), Nat.sub_self]; rfl
 ·rw [hs]; rfl
theorem nowE {x : Except PE PS} {p : Gref13P} (h : St13 L x p) : ∃ t, q12 p t := by
 obtain ⟨h1, h2, h3⟩ := h.inr
 refine ⟨L[p.I.toNat]'(by omega), qB9 ?_⟩
 unfold q8j
 rw [h1]
 exact At.mk h2 h3 fun x hx => by
  obtain ⟨_, e⟩ := List.getElem?_eq_some_iff.1 hx
  exact e.symm
def isX (w : ByteArray) (x : Except PE PS) : Bool := match x with
 | .ok s => isP w s
 | .error _ => false
theorem is_r {x : Except PE PS} {p : Gref13P} (h : St13 L x p) (w : ByteArray) : q07 p w (isX w x) := by
 refine qIj ?_
 unfold qC8
 cases x with
 | error e =>
  obtain ⟨t, ht⟩ := nowE h
  exact Call.mk ht (Br.f (beq_eq_false_iff_ne.2 h.badE) rfl)
 | ok s =>
  obtain ⟨g, rfl⟩ := h
  refine Call.mk (qL5 g rfl rfl) (Br.t rfl ?_)
  have key : ((hdT s.1).S.toList == w.toList) = decide ((hdT s.1).S = w) := by rw [Bool.eq_iff_iff, q9p, decide_eq_true_iff]
  rw [key]
  unfold isX isP isT
  refine Br.e (fun e => ?_) fun e => Br.e (fun e2 => ?_) fun e2 => ?_
  ·show _ = (((hdT s.1).Kind == 2 || (hdT s.1).Kind == 4) && decide ((hdT s.1).S = w)); rw [e]; simp
  ·show _ = (((hdT s.1).Kind == 2 || (hdT s.1).Kind == 4) && decide ((hdT s.1).S = w)); rw [e2]; simp
  ·show _ = (((hdT s.1).Kind == 2 || (hdT s.1).Kind == 4) && decide ((hdT s.1).S = w)); rw [beq_eq_false_iff_ne.2 e, beq_eq_false_iff_ne.2 e2]; simp
theorem qL6 {s : PS} {w : ByteArray} (g : Gd L s) (hw : isP w s = true) : q08 (bxR L s) w (true, bxR L (q0i s)) := by
 refine qA4 ?_
 unfold q7k
 exact Call.mk (is_r (x := .ok s) ⟨g, rfl⟩ w) (Br.t hw (Let.as _ g.wrR rfl))
theorem qAx {x : Except PE PS} {p : Gref13P} {w : ByteArray} (h : St13 L x p) (hw : isX w x = false) : q08 p w (false, p) := by
 refine qA4 ?_
 unfold q7k
 exact Call.mk (is_r h w) (Br.f hw rfl)
theorem qMd {s : PS} (g : Gd L s) (e : Int) (he : e ≠ 0) : ∃ r, q1v (bxR L s) e r /\ St13 L (.error (e, (hdT s.1).At)) r := by
 have hi := St13.inr (x := .ok s) ⟨g, rfl⟩
 refine ⟨{ bxR L s with Bad := e, At := (hdT s.1).At }, qFt ?_, rfl, rfl, rfl, he, hi.2.1, hi.2.2⟩
 unfold q9r
 exact Br.t rfl (Call.mk (qL5 g rfl rfl) rfl)
theorem qOt {s : PS} (g : Gd L s) : ∃ r, q1t (bxR L s) r /\ St13 L (.error (qE2 s)) r := by
 refine qIo ?_
 unfold q3e
 refine Call.mk (qL5 g rfl rfl) (Br.e (fun e => ?_) fun e => ?_)
 ·obtain ⟨r, h1, h2⟩ := qMd g 131 (by decide)
  refine Call.mk h1 ?_
  unfold qE2; rw [if_pos e]; exact h2
 ·obtain ⟨r, h1, h2⟩ := qMd g 130 (by decide)
  refine Call.mk h1 ?_
  unfold qE2; rw [if_neg e]; exact h2
theorem q2k {x : Except PE PS} {p : Gref13P} (h : St13 L x p) (w : ByteArray) : ∃ r, q03 p w r /\ St13 L (bnd x (q0u w)) r := by
 refine qIn ?_
 unfold q3d
 cases x with
 | error e => exact Br.f (beq_eq_false_iff_ne.2 h.badE) h
 | ok s =>
  obtain ⟨g, rfl⟩ := h
  refine Br.t rfl ?_
  rw [show bnd (.ok s) (q0u w) = q0u w s from rfl]
  unfold q0u
  cases hw : isP w s with
  | true => exact Call.mk (qL6 g hw) (Br.f rfl ⟨(g.gn (q13 hw)).g, rfl⟩)
  | false =>
   obtain ⟨r, h1, h2⟩ := qOt g
   exact Call.mk (qAx (x := .ok s) ⟨g, rfl⟩ hw) (Br.t rfl (Call.mk h1 h2))
theorem q9i {x : Except PE PS} {p : Gref13P} (h : St13 L x p) : ∃ r, q0l p r /\ q3s L (bnd x q7v) r := by
 refine qIm ?_
 unfold q3c
 cases x with
 | error e => exact Br.t (bne_iff_ne.2 h.badE) ⟨fun _ _ he => (by cases he), h⟩
 | ok s =>
  obtain ⟨g, rfl⟩ := h
  refine Br.f rfl (Call.mk (qL5 g rfl rfl) ?_)
  rw [show bnd (.ok s) q7v = q7v s from rfl]
  unfold q7v
  by_cases e : (hdT s.1).Kind = 1
  ·rw [if_pos e]
   refine Br.f (by rw [e]; rfl) (Let.as _ g.wrR ?_)
   have hl := g.le
   have hn := g.len
   obtain ⟨t, r, hs⟩ := g.ne
   obtain ⟨q, hp⟩ := g.suf
   have e2 : IntKind.i64.wrap ((bxR L (q0i s)).I - 1) = (q.length : Int) := by
    have := congrArg List.length hp
    rw [List.length_append] at this
    show IntKind.i64.wrap ((L.length : Int) - (s.1.tail.length : Int) - 1) = _
    rw [hs] at this ⊢
    simp only [List.length_cons, List.tail_cons] at this ⊢
    rw [wi (by omega) (by omega)]; omega
   refine Let.as _ e2 ⟨by omega, t, ?_, ?_⟩
   ·show L[_]? = _
    rw [Int.toNat_natCast, hp, hs, List.getElem?_append_right (Nat.le_refl _), Nat.sub_self]; rfl
   ·refine ⟨fun a b hab => ?_, (g.next (by omega)).g, rfl⟩
    cases hab
    rw [hs]; rfl
  ·rw [if_neg e]
   obtain ⟨r, h1, h2⟩ := qOt g
   exact Br.t (bne_iff_ne.2 e) (Call.mk h1 ⟨fun _ _ he => (by cases he), h2⟩)
theorem qVn {x : Except PE PS} {p : Gref13P} (h : St13 L x p) {lo hi : Int} {so : GRat -> Bool} (hso : ∀ a : GRat, qDi a -> so a = (a.D == 1 && decide (lo <= a.N) && decide (a.N <= hi))) :
    ∃ r, q0p p lo hi r /\ q3s L (bnd x fun s => bnd (numP so s) fun q => .ok (q.1.N, q.2)) r := by
  refine qH4 ?_
  unfold q2q
  cases x with
  | error e => exact Br.t (bne_iff_ne.2 h.badE) ⟨fun _ _ he => (by cases he), h⟩
  | ok s =>
    obtain ⟨g, rfl⟩ := h
    refine Br.f rfl (Call.mk (qL5 g rfl rfl) ?_)
    have hs := hso _ g.hd.num
    obtain ⟨Y, hY⟩ : ∃ Y, (bnd (.ok s) fun s => bnd (numP so s) fun q => .ok (q.1.N, q.2)) = Y := ⟨_, rfl⟩
    rw [hY]
    have hY : (bnd (numP so s) fun q => .ok (q.1.N, q.2)) = Y := hY
    unfold numP at hY
    by_cases e : (hdT s.1).Kind = 3
    · rw [if_pos e] at hY
      refine Br.f (by rw [e]; rfl) ?_
      refine ⟨fun b => b = !so (hdT s.1).Num, ?_, ?_⟩
      · rw [hs]
        by_cases h1 : (hdT s.1).Num.D = 1
        · refine Br.f (by rw [h1]; rfl) (Br.d (fun h2 => ?_) fun h2 => ?_)
          · rw [h1, decide_eq_false (by omega : ¬ lo <= (hdT s.1).Num.N)]; rfl
          · rw [h1, decide_eq_true (by omega : lo <= (hdT s.1).Num.N)]
            by_cases h3 : (hdT s.1).Num.N <= hi
            · rw [decide_eq_true h3, decide_eq_false (by omega)]; rfl
            · rw [decide_eq_false h3, decide_eq_true (by omega)]; rfl
        · refine Br.t (bne_iff_ne.2 h1) ?_
          rw [beq_eq_false_iff_ne.2 h1]; rfl
      · rintro _ rfl
        cases hb : so (hdT s.1).Num with
        | true =>
          rw [hb, if_pos rfl] at hY
          refine Br.f rfl (Let.as _ g.wrR ?_)
          subst hY
          exact ⟨fun a b hab => by cases hab; rfl, (g.next (by omega)).g, rfl⟩
        | false =>
          rw [hb, if_neg (by decide)] at hY
          subst hY
          obtain ⟨r, h1, h2⟩ := qMd g 110 (by decide)
          exact Br.t rfl (Call.mk h1 ⟨fun _ _ he => (by cases he), h2⟩)
    · rw [if_neg e] at hY
      subst hY
      obtain ⟨r, h1, h2⟩ := qOt g
      exact Br.t (bne_iff_ne.2 e) (Call.mk h1 ⟨fun _ _ he => (by cases he), h2⟩)
theorem qCc {x : Except PE PS} {p : Gref13P} (h : St13 L x p) (w : ByteArray) : ∃ r, q0o p w r /\ St13 L (bnd x (q2a w)) r := by
 refine qH3 ?_
 unfold q2p
 have fin : ∀ {x' : Except PE PS} {p' : Gref13P}, St13 L x' p' -> (∀ s, x' = .ok s -> s.2 < 60) -> Call (q03 p' w) fun x15 => Let (IntKind.i64.wrap (x15.Open + 1)) fun x17 => St13 L (bnd x' fun s => bnd (q0u w s) fun s => .ok (s.1, s.2 + 1)) { x15 with Open := x17 } := by
  intro x' p' h hlt
  obtain ⟨r, h1, h2⟩ := q2k h w
  refine Call.mk h1 ?_
  cases x' with
  | error e =>
   obtain ⟨k1, k2, k3, k4, k5, k6⟩ := h2
   exact Let.it ⟨k1, k2, k3, k4, k5, k6⟩
  | ok s =>
   have h2 : St13 L (q0u w s) r := h2
   show Let _ fun x17 => St13 L (bnd (q0u w s) _) _
   cases hm : q0u w s with
   | error e =>
    rw [hm] at h2
    obtain ⟨k1, k2, k3, k4, k5, k6⟩ := h2
    exact Let.it ⟨k1, k2, k3, k4, k5, k6⟩
   | ok b =>
    rw [hm] at h2
    obtain ⟨gb, rfl⟩ := h2
    obtain ⟨g, _⟩ := h
    have go := q09 w s b hm g.fin
    have h60 := hlt s rfl
    have hlo := gb.lo
    have ho : b.2 = s.2 := by rw [go.2.2.1]; omega
    refine Let.as (b.2 + 1) (show IntKind.i64.wrap (b.2 + 1) = _ from wi (by omega) (by omega)) ⟨⟨gb.suf, gb.fin, by show 0 <= b.2 + 1; omega, by show b.2 + 1 <= 60; omega, gb.len, gb.tok⟩, rfl⟩
 cases x with
 | error e =>
  refine ⟨fun b => b = false, Call.mk (is_r h w) (Br.f rfl rfl), ?_⟩
  rintro _ rfl
  refine ⟨fun q => q = p, Br.f rfl rfl, ?_⟩
  rintro _ rfl
  exact fin h (fun s hs => by cases hs)
 | ok s =>
  obtain ⟨g, rfl⟩ := h
  rw [show bnd (.ok s) (q2a w) = q2a w s from rfl]
  refine ⟨fun b => b = (isP w s && decide (60 <= s.2)), Call.mk (is_r (x := .ok s) ⟨g, rfl⟩ w) ?_, ?_⟩
  ·show Br (isP w s) _ _
   cases hw : isP w s with
   | true => exact Br.t rfl rfl
   | false => exact Br.f rfl rfl
  ·rintro _ rfl
   unfold q2a
   by_cases hc : isP w s = true /\ 60 <= s.2
   ·rw [if_pos hc]
    obtain ⟨r, h1, h2⟩ := qMd g 132 (by decide)
    refine ⟨fun q => q = r, Br.t (by rw [hc.1]; simpa using hc.2) (Call.mk h1 rfl), ?_⟩
    rintro _ rfl
    exact fin h2 (fun s hs => by cases hs)
   ·rw [if_neg hc]
    refine ⟨fun q => q = bxR L s, Br.f (by rw [Bool.and_eq_false_iff, decide_eq_false_iff_not]; cases hw : isP w s with | true => exact .inr fun hx => hc ⟨hw, hx⟩ | false => exact .inl rfl) rfl, ?_⟩
    rintro _ rfl
    by_cases h60 : 60 <= s.2
    ·-- the token is another one: 'must' is refused
     obtain ⟨r, h1, h2⟩ := q2k (x := .ok s) ⟨g, rfl⟩ w
     have h2 : St13 L (q0u w s) r := h2
     have hm : q0u w s = .error (qE2 s) := by unfold q0u; rw [if_neg fun hx => hc ⟨hx, h60⟩]
     rw [hm] at h2 ⊢
     refine Call.mk h1 ?_
     obtain ⟨k1, k2, k3, k4, k5, k6⟩ := h2
     exact Let.it ⟨k1, k2, k3, k4, k5, k6⟩
    ·exact fin (x' := .ok s) ⟨g, rfl⟩ (fun s' hs => by cases hs; omega)
end Go.Sim.YtifjflhnfjhijaaGreatDoor
