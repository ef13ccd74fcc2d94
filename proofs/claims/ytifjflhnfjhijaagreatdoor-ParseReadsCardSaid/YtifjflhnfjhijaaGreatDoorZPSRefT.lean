/- What is proved: the reference's parser reads expressions and dimensions as the plain one does. -/
import Derived.Test.YtifjflhnfjhijaaGreatDoorZPSRefQ
import Derived.Test.YtifjflhnfjhijaaGreatDoorZPSBigY

namespace Go.Sim.YtifjflhnfjhijaaGreatDoor
open Go.RowKit Go.Proofs Go.Proofs.Tryz
section rules
variable {L : List GToken} {α γ : Type} {x : Except PE PS} {s : PS} {p : Gref13P} {Y : PR γ} {k : Int} {d : Nat}
theorem rVl {f : PS -> PR α} {g : α × PS -> PR γ} {R : α × Gref13P -> Prop} {K : α × Gref13P -> Prop} (S : α -> Prop) (hT : (bnd x fun s => bnd (f s) g) = Y) (hR : ∃ r, R r /\ q3s L (bnd x f) r) (hg : ∀ s, OkP (Vg k d s) (f s)) (hS : ∀ s, Gd L s -> OkP (fun r => S r.1) (f s)) (hx : St13 L x p)
    (hk : ∀ a p' x', St13 L x' p' -> Fol k d x x' -> (∀ b, x' = .ok b -> S a) -> (bnd x' fun s => g (a, s)) = Y -> K (a, p')) : Call R K := by
  obtain ⟨⟨a, p'⟩, h1, h2, h3⟩ := hR
  refine ⟨_, h1, hk a p' (stX (bnd x f)) h3 ?_ ?_ ?_⟩
  · intro b hb
    cases x with
    | error e => cases hb
    | ok s =>
      obtain ⟨q, h4, h5⟩ := qA2.1 hb
      cases h5
      have go := hg s q h4 hx.1.fin
      exact ⟨s, rfl, go.2.2.1, go.2.2.2⟩
  · intro b hb
    cases x with
    | error e => cases hb
    | ok s =>
      obtain ⟨⟨a2, b2⟩, h4, h5⟩ := qA2.1 hb
      have h6 : a = a2 := h2 a2 b2 h4
      rw [h6]
      exact hS s hx.1 _ h4
  · subst hT
    cases x with
    | error e => rfl
    | ok s =>
      show (bnd (stX (f s)) fun s => g (a, s)) = bnd (f s) g
      have h2 : ∀ b t, f s = .ok (b, t) -> a = b := h2
      cases hf : f s with
      | error e => rfl
      | ok q => obtain ⟨b, t⟩ := q; rw [h2 b t hf]; rfl
theorem rIsN {w : ByteArray} {F G : PS -> PR γ} {A B : Prop} (hT : (bnd x fun s => if isP w s = true then F s else G s) = Y) (hx : St13 L x p)
    (ht : ∀ s, x = .ok s -> isP w s = true -> St13 L (.ok s) (bxR L s) -> p = bxR L s -> F s = Y -> A) (hf : isX w x = false -> bnd x G = Y -> B) : Call (q07 p w) fun b => Br (!b) B A := by
  obtain ⟨b, h1, h2⟩ := rIs hT hx ht hf
  refine ⟨b, h1, ?_⟩
  cases b with
  | true => exact Br.f rfl (h2.1 rfl)
  | false => exact Br.t rfl (h2.2 rfl)
end rules
variable {L : List GToken} {x : Except PE PS} {p : Gref13P}
def WordT (L : List GToken) : Prop := ∀ t ∈ L, t.Kind = 2 -> t.S ≠ ByteArray.mk #[]
theorem WordT.hd {s : PS} (h : WordT L) (g : Gd L s) : (hdT s.1).Kind = 2 -> (hdT s.1).S ≠ ByteArray.mk #[] := by
 obtain ⟨t, r, hs⟩ := g.ne
 obtain ⟨q, hq⟩ := g.suf
 refine h _ ?_
 rw [hq, hs]
 simp [hdT]
theorem qUp {s : PS} {v w : ByteArray} (h : isP v s = true) (hne : v ≠ w) : isP w s = false := by
 unfold isP isT at h ⊢
 simp only [Bool.and_eq_true, decide_eq_true_iff] at h
 rw [h.2, decide_eq_false hne, Bool.and_false]
theorem qVq {s : PS} (h : (hdT s.1).Kind ≠ 1) : refP s = .error (qE2 s) := by
 unfold refP elP q7v
 rw [if_neg h]; rfl
section
variable (hW : WordT L) (hr : ∀ a : GRat, a.ok -> q2e a a.right)
include hW hr
theorem qVr {n : Nat} (he : ∀ x p, St13 L x p -> (∀ s, x = .ok s -> 61 <= (n : Int) + s.2) -> ∃ r, q0m p r /\ q3s L (bnd x (q8i n)) r) (h : St13 L x p) (hn : ∀ s, x = .ok s -> 60 <= (n : Int) + s.2) :
    ∃ r, q57 p r /\ q3s L (bnd x (qB8 n)) r := by
  refine qH7 ?_
  unfold q2t
  cases x with
  | error e => exact Br.t (bne_iff_ne.2 h.badE) ⟨fun _ _ he => (by cases he), h⟩
  | ok s =>
    have hn := hn s rfl
    obtain ⟨g, rfl⟩ := h
    have h : St13 L (.ok s) (bxR L s) := ⟨g, rfl⟩
    obtain ⟨Y, hT⟩ : ∃ Y, bnd (.ok s) (qB8 n) = Y := ⟨_, rfl⟩
    rw [hT]
    have hT : qB8 n s = Y := hT
    unfold qB8 at hT
    refine Br.f rfl (Call.mk (qL5 g rfl rfl) (Br.e (fun e => ?_) fun e => ?_))
    · rw [if_pos e] at hT
      have hd := g.hd.num
      refine Call.mk (qLb hr hd.ok hd.dn) ?_
      unfold numP at hT
      rw [if_pos e] at hT
      cases hb : decB (hdT s.1).Num with
      | true =>
        rw [hb, if_pos rfl] at hT
        subst hT
        exact Br.f rfl (Let.as _ g.wrR ⟨fun a b hab => by cases hab; rfl, (g.next (by omega)).g, rfl⟩)
      | false =>
        rw [hb, if_neg (by decide)] at hT
        subst hT
        obtain ⟨r, h1, h2⟩ := qMd g 110 (by decide)
        exact Br.t rfl (Call.mk h1 ⟨fun _ _ he => (by cases he), h2⟩)
    · rw [if_neg e] at hT
      refine qRm hT h (fun _ h1 _ hT => leafo h1 hT) fun _ hT => ?_
      have hin : ∀ (t0 : GTree -> GTree) (s1 : PS), St13 L (.ok s1) (bxR L s1) -> 60 <= (n : Int) + s1.2 -> (bnd (q2a (ByteArray.mk #[40]) s1) fun s1 => bnd (q8i n s1) fun r => bnd (q1q [(ByteArray.mk #[41])] r.2) fun s2 => .ok (t0 r.1, s2)) = Y ->
          ∀ K : GTree × Gref13P -> Prop, (∀ t p' x', St13 L x' p' -> (bnd x' fun s => .ok (t0 t, s)) = Y -> K (t, p')) ->
          Call (q0o (bxR L s1) (ByteArray.mk #[40])) fun x30 => Call (q0m x30) fun x32 => Call (q03 x32.2 (ByteArray.mk #[41])) fun x34 => Call (q0t x34) fun x36 => K (x32.1, x36) := by
        intro t0 s1 h1 hb hT K hk
        refine rUo hT (qCc h1 _) (q0s _) h1 fun p2 x2 h2 f2 hT => rV hT (he _ _ h2 fun b hb => ?_) (q15 n) h2 fun t p3 x3 h3 f3 hT => rL hT h3 (fun b hb => ?_) fun p4 x4 h4 _ hT => hk t p4 x4 h4 hT
        · obtain ⟨c, hc, h5, _⟩ := f2 b hb
          cases hc
          omega
        · obtain ⟨c, hc, h5, _⟩ := (f2.trans f3) b hb
          cases hc
          have := h1.1.lo
          omega
      refine Call.mk (is_r h _) ?_
      show Br (isP (ByteArray.mk #[40]) s) _ _
      cases hp : isP (ByteArray.mk #[40]) s with
      | true =>
        rw [if_neg (by rw [qUp hp (by decide)]; decide), if_pos hp] at hT
        exact Br.t rfl (hin (fun t => t) s h hn hT _ fun t p' x' h2 hT => leaf h2 hT)
      | false =>
        rw [hp, if_neg (c := false = true) (by decide)] at hT
        refine Br.f rfl ?_
        by_cases hk2 : (hdT s.1).Kind = 2
        · obtain ⟨kf, hf1, hf2, hf3⟩ := qPr (hdT s.1).S (hW.hd g hk2)
          rw [if_pos hk2] at hT
          by_cases hx : fnIx (hdT s.1).S < 0
          · refine ⟨fun b => b = false, Br.t (by rw [hk2]; rfl) (Call.mk hf1 (by rw [hf2 hx]; rfl)), ?_⟩
            rintro _ rfl
            rw [if_pos hx] at hT
            refine Br.f rfl ?_
            obtain ⟨r, h1, h2⟩ := qNq h
            refine Call.mk h1 ?_
            have e2 : (bnd (.ok s) fun s => if isP (ByteArray.mk #[100, 101, 114]) s = true then derP s else refP s) = Y := by
              rw [← hT]
              show (if isP (ByteArray.mk #[100, 101, 114]) s = true then derP s else refP s) = _
              rw [qVq (by omega)]
            rw [e2] at h2
            exact h2
          · obtain ⟨k1, k2⟩ := hf3 hx
            refine ⟨fun b => b = true, Br.t (by rw [hk2]; rfl) (Call.mk hf1 (decide_eq_true k2)), ?_⟩
            rintro _ rfl
            have hder : ¬ isP (ByteArray.mk #[100, 101, 114]) s = true := fun hd => hx (by
              unfold isP isT at hd
              simp only [Bool.and_eq_true, decide_eq_true_iff] at hd
              rw [hd.2]
              decide)
            rw [if_neg hder, if_neg hx] at hT
            have gn := g.next (show (hdT s.1).Kind ≠ 0 by omega)
            refine Br.t rfl (Let.as _ g.wrR ?_)
            refine hin (fun t => { GTree.zero with Kind := 6, N := fnIx (hdT s.1).S, Kids := [t] }) (q0i s) ⟨gn.g, rfl⟩ (by rw [gn.o]; exact hn) hT (fun q => Call (q2n (hdT s.1).S) fun x64 => q3s L Y ({ GTree.zero with Kind := 6, N := x64, Kids := [q.1] }, q.2)) fun t p' x' h2 hT => Call.mk hf1 ?_
            rw [k1]
            exact leaf h2 hT
        · refine ⟨fun b => b = false, Br.f (beq_eq_false_iff_ne.2 hk2) rfl, ?_⟩
          rintro _ rfl
          rw [if_neg hk2] at hT
          refine Br.f rfl ?_
          obtain ⟨r, h1, h2⟩ := qNq h
          rw [show (bnd (.ok s) fun s => if isP (ByteArray.mk #[100, 101, 114]) s = true then derP s else refP s) = Y from hT] at h2
          exact Call.mk h1 h2
theorem qYe : ∀ (n : Nat) (x : Except PE PS) (p : Gref13P), St13 L x p -> (∀ s, x = .ok s -> 61 <= (n : Int) + s.2) -> ∃ r, q3b p r /\ q3s L (bnd x (negP n)) r
 | 0, x, p, h, hn => by
  refine qDs ?_
  unfold q35
  cases x with
  | error e => exact Br.t (bne_iff_ne.2 h.badE) ⟨fun _ _ he => (by cases he), h⟩
  | ok s =>
   have := hn s rfl
   have := h.1.hi
   omega
 | n + 1, x, p, h, hn => by
  have ih := qYe n
  have hmul : ∀ o : Int, 61 <= (n : Int) + o -> ∀ x p, St13 L x p -> (∀ s, x = .ok s -> s.2 = o) -> ∃ r, q3a p r /\ q3s L (bnd x (mulP n)) r := fun o ho x p h hs => by
   refine qDr ?_
   unfold q34
   exact qDt (by decide) (q9g n) (fun x p h hs => ih x p h fun s e => by rw [hs s e]; exact ho) h hs
  have hexpr : ∀ x p, St13 L x p -> (∀ s, x = .ok s -> 61 <= (n : Int) + s.2) -> ∃ r, q0m p r /\ q3s L (bnd x (q8i n)) r := fun x p h hs => by
   refine qCa ?_
   unfold q2i
   cases x with
   | error e => exact qDt (o := 61) (by decide) (qM8 n) (hmul 61 (by omega)) h (fun s e => by cases e)
   | ok s => exact qDt (o := s.2) (by decide) (qM8 n) (hmul s.2 (hs s rfl)) h (fun s' e => by cases e; rfl)
  refine qDs ?_
  unfold q35
  cases x with
  | error e => exact Br.t (bne_iff_ne.2 h.badE) ⟨fun _ _ he => (by cases he), h⟩
  | ok s =>
   have hn := hn s rfl
   obtain ⟨g, rfl⟩ := h
   have h : St13 L (.ok s) (bxR L s) := ⟨g, rfl⟩
   obtain ⟨Y, hT⟩ : ∃ Y, bnd (.ok s) (negP (n + 1)) = Y := ⟨_, rfl⟩
   rw [hT]
   have hT : negP (n + 1) s = Y := hT
   rw [qRl] at hT
   refine Br.f rfl (rIso hT h (fun _ hT => ?_) fun _ hT => ?_)
   ·refine rUo hT (qCc h _) (q0s _) h fun p2 x2 h2 f2 hT => rV hT (ih _ _ h2 fun b hb => ?_) (q9g n) h2 fun t p3 x3 h3 f3 hT => qYa (F := fun s => .ok (tk 7 [t], s)) hT h3 (fun b hb => ?_) fun p4 x4 h4 _ hT => leaf h4 hT
    ·obtain ⟨c, hc, h5, _⟩ := f2 b hb
     cases hc
     omega
    ·obtain ⟨c, hc, h5, _⟩ := (f2.trans f3) b hb
     cases hc
     have := g.lo
     omega
   ·refine rVo hT (qVr hW hr hexpr h fun s' hs => by cases hs; omega) (qOu n) h fun t p2 x2 h2 f2 hT => qIv hT h2 (fun s2 _ _ h3 _ hT => ?_) fun _ hT => leaf h2 hT
    exact rVo hT (qNp h3) q7j h3 fun q p4 x4 h4 _ hT => leaf h4 hT
theorem qDu (h : St13 L x p) : ∃ r, q0m p r /\ q3s L (bnd x (q8i 62)) r := by
 have hmul : ∀ o : Int, 61 <= ((62 : Nat) : Int) + o -> ∀ x p, St13 L x p -> (∀ s, x = .ok s -> s.2 = o) -> ∃ r, q3a p r /\ q3s L (bnd x (mulP 62)) r := fun o ho x p h hs => by
  refine qDr ?_
  unfold q34
  exact qDt (by decide) (q9g 62) (fun x p h hs => qYe hW hr 62 x p h fun s e => by rw [hs s e]; exact ho) h hs
 refine qCa ?_
 unfold q2i
 cases x with
 | error e => exact qDt (o := 61) (by decide) (qM8 62) (hmul 61 (by omega)) h (fun s e => by cases e)
 | ok s => exact qDt (o := s.2) (by decide) (qM8 62) (hmul s.2 (by have := h.1.lo; omega)) h (fun s' e => by cases e; rfl)
end
section
variable {mk : Int -> Int -> GRat} (hm : ∀ a d : Int, -64 <= a -> a <= 64 -> 1 <= d -> d <= 64 -> ∃ e, q67 a d (mk a d, e))
def qOx (mk : Int -> Int -> GRat) (n : Nat) (st : PS) : PR GTree :=
 if isP (ByteArray.mk #[40]) st = true then bnd (q2a (ByteArray.mk #[40]) st) fun s1 => bnd (dimP mk n s1) fun r => bnd (q1q [(ByteArray.mk #[41])] r.2) fun s2 => .ok (r.1, s2)
 else if (hdT st.1).Kind = 3 then bnd (numP qPm st) fun r => .ok (tk 20 [], r.2)
 else bnd (q7v st) fun r => .ok ({ GTree.zero with Kind := 21, Name := r.1 }, r.2)
def qMj (mk : Int -> Int -> GRat) (t : GTree) (s0 : PS) : PR GTree :=
  if isP (ByteArray.mk #[94]) s0 = true then
    (if isP (ByteArray.mk #[40]) (q0i s0) = true then bnd (q2a (ByteArray.mk #[40]) (q0i s0)) fun s2 => bnd (q6m s2) fun a => bnd (q0u (ByteArray.mk #[47]) a.2) fun s3 => bnd (numP denB s3) fun d => bnd (q1q [(ByteArray.mk #[41])] d.2) fun s4 => .ok ({ GTree.zero with Kind := 24, Num := mk a.1 d.1.N, Kids := [t] }, s4)
     else bnd (q6m (q0i s0)) fun a => .ok ({ GTree.zero with Kind := 24, Num := ⟨a.1, 1⟩, Kids := [t] }, a.2))
  else .ok (t, s0)
theorem qYf (n : Nat) (st : PS) : upP mk (n + 1) st = bnd (qOx mk n st) fun r => qMj mk r.1 r.2 := by rw [upP]; rfl
include hm
theorem up_r : ∀ (n : Nat) (x : Except PE PS) (p : Gref13P), St13 L x p -> (∀ s, x = .ok s -> 61 <= (n : Int) + s.2) -> ∃ r, q63 p r /\ q3s L (bnd x (upP mk n)) r := by
 intro n
 induction n with
 | zero =>
  intro x p h hn
  cases x with
  | ok s =>
   have := hn s rfl
   have := h.1.hi
   omega
  | error e =>
   refine qEy ?_
   unfold q49
   obtain ⟨r, h1, h2⟩ := q9i h
   have h2 : St13 L (.error e) r.2 := h2.2
   refine Call.mk (is_r h _) ⟨fun p' _ => St13 L (.error e) p', Br.f rfl ⟨fun b => b = false, Br.f (beq_eq_false_iff_ne.2 h.badE) rfl, ?_⟩, ?_⟩
   ·rintro _ rfl
    exact Br.f rfl (Call.mk h1 h2)
   ·intro p' t h3
    exact Call.mk (qAx h3 rfl) (Br.t rfl ⟨fun _ _ he => (by cases he), h3⟩)
 | succ n ih =>
  intro x p h hn
  have hdim : ∀ x p, St13 L x p -> (∀ s, x = .ok s -> 61 <= (n : Int) + s.2) -> ∃ r, q2d p r /\ q3s L (bnd x (dimP mk n)) r := fun x p h hs => by
   refine qDq ?_
   unfold q33
   cases x with
   | error e => exact qDt (o := 61) (by decide) (qIe mk n) (fun x p h hs => ih x p h fun s e => by rw [hs s e]; omega) h (fun s e => by cases e)
   | ok s => exact qDt (o := s.2) (by decide) (qIe mk n) (fun x p h hs2 => ih x p h fun s' e => by rw [hs2 s' e]; exact hs s rfl) h (fun s' e => by cases e; rfl)
  refine qEy ?_
  unfold q49
  obtain ⟨Y, hT⟩ : ∃ Y, bnd x (upP mk (n + 1)) = Y := ⟨_, rfl⟩
  rw [hT]
  have hT : (bnd x fun st => bnd (qOx mk n st) fun r => qMj mk r.1 r.2) = Y := by
   rw [← hT]; exact congrArg (bnd x) (funext fun st => (qYf n st).symm)
  refine Call.mk (is_r h _) ⟨fun p' t => ∃ x', St13 L x' p' /\ Fol 0 0 x x' /\ bnd x' (qMj mk t) = Y, ?_, ?_⟩
  ·cases x with
   | error e =>
    obtain ⟨r, h1, h2⟩ := q9i h
    refine Br.f rfl ⟨fun b => b = false, Br.f (beq_eq_false_iff_ne.2 h.badE) rfl, ?_⟩
    rintro _ rfl
    exact Br.f rfl (Call.mk h1 ⟨.error e, h2.2, (fun b hb => by cases hb), hT⟩)
   | ok s =>
    have hn := hn s rfl
    have hT : (bnd (qOx mk n s) fun r => qMj mk r.1 r.2) = Y := hT
    unfold qOx at hT
    simp only [q6s, q1b, q1z] at hT
    obtain ⟨g, rfl⟩ := h
    have h : St13 L (.ok s) (bxR L s) := ⟨g, rfl⟩
    show Br (isP (ByteArray.mk #[40]) s) _ _
    cases hp : isP (ByteArray.mk #[40]) s with
    | true =>
     rw [if_pos hp] at hT
     refine Br.t rfl (rUo hT (qCc h _) (q0s _) h fun p2 x2 h2 f2 hT => rV hT (hdim _ _ h2 fun b hb => ?_) (qGk mk n) h2 fun t p3 x3 h3 f3 hT => rL hT h3 (fun b hb => ?_) fun p4 x4 h4 f4 hT => ⟨x4, h4, ?_, hT⟩)
     ·obtain ⟨c, hc, h5, _⟩ := f2 b hb
      cases hc
      omega
     ·obtain ⟨c, hc, h5, _⟩ := (f2.trans f3) b hb
      cases hc
      have := g.lo
      omega
     ·intro b hb
      obtain ⟨c, hc, h5, h6⟩ := ((f2.trans f3).trans f4) b hb
      exact ⟨c, hc, by omega, by omega⟩
    | false =>
     rw [hp, if_neg (c := false = true) (by decide)] at hT
     refine Br.f rfl ⟨fun b => b = ((hdT s.1).Kind == 3), Br.t rfl (Call.mk (qL5 g rfl rfl) rfl), ?_⟩
     rintro _ rfl
     refine Br.e (fun e => ?_) fun e => ?_
     ·rw [if_pos e] at hT
      exact qVo hT (fun _ => qYc) h fun _ p2 x2 h2 f2 _ hT => ⟨x2, h2, fun b hb => by obtain ⟨c, hc, h5, h6⟩ := f2 b hb; exact ⟨c, hc, by omega, by omega⟩, hT⟩
     ·rw [if_neg e] at hT
      exact rVo hT (q9i h) q0q h fun _ p2 x2 h2 f2 hT => ⟨x2, h2, fun b hb => by obtain ⟨c, hc, h5, h6⟩ := f2 b hb; exact ⟨c, hc, by omega, by omega⟩, hT⟩
  ·rintro p' t ⟨x', h1, f1, hT⟩
   unfold qMj at hT
   refine qMg hT h1 (fun s _ _ h2 _ hT => ?_) fun _ hT => leaf h1 hT
   dsimp only
   refine Call.mk (is_r h2 _) ⟨fun p' q => ∃ x', St13 L x' p' /\ (bnd x' fun s => .ok ({ GTree.zero with Kind := 24, Num := q, Kids := [t] }, s)) = Y, ?_, ?_⟩
   ·show Br (isP (ByteArray.mk #[40]) (q0i s)) _ _
    generalize q0i s = s1 at h2 hT ⊢
    cases hp : isP (ByteArray.mk #[40]) s1 with
    | true =>
     rw [if_pos hp] at hT
     refine Br.t rfl (rUo hT (qCc h2 _) (q0s _) h2 fun p2 x2 h3 f2 hT => ?_)
     refine rVl (fun a => -64 <= a /\ a <= 64) hT (qNp h3) q7j (fun s g => qOs g) h3 fun a p3 x3 h4 f3 ha hT => ?_
     dsimp only at hT
     refine rU hT (q2k h4 _) (q09 _) h4 fun p4 x4 h5 f4 hT => ?_
     refine rNum hT (fun _ => qYb) h5 fun d p5 x5 h6 f5 hd hT => ?_
     dsimp only at hT
     refine rL hT h6 (fun b hb => ?_) fun p6 x6 h7 f6 hT => ?_
     ·obtain ⟨c, hc, h8, _⟩ := (((f2.trans f3).trans f4).trans f5) b hb
      cases hc
      have := h2.1.lo
      omega
     ·cases x6 with
      | error e => exact Br.f (beq_eq_false_iff_ne.2 h7.badE) ⟨.error e, h7, hT⟩
      | ok b =>
       obtain ⟨b5, hb5, _⟩ := f6 b rfl
       obtain ⟨b4, hb4, _⟩ := f5 b5 hb5
       obtain ⟨b3, hb3, _⟩ := f4 b4 hb4
       obtain ⟨a1, a2⟩ := ha b3 hb3
       obtain ⟨d1, d2⟩ := hd b5 hb5
       obtain ⟨e, hmk⟩ := hm a d a1 a2 d1 d2
       exact Br.t (by rw [h7.bad0]; rfl) (Call.mk hmk ⟨.ok b, h7, hT⟩)
    | false =>
     rw [hp, if_neg (c := false = true) (by decide)] at hT
     exact Br.f rfl (rVo hT (qNp h2) q7j h2 fun a p3 x3 h4 f3 hT => ⟨x3, h4, hT⟩)
   ·rintro p3 q ⟨x3, h3, hT⟩
    exact leaf h3 hT
theorem qYg (h : St13 L x p) : ∃ r, q2d p r /\ q3s L (bnd x (dimP mk 62)) r := by
 refine qDq ?_
 unfold q33
 cases x with
 | error e => exact qDt (o := 61) (by decide) (qIe mk 62) (fun x p h hs => up_r hm 62 x p h fun s e => by rw [hs s e]; omega) h (fun s e => by cases e)
 | ok s => exact qDt (o := s.2) (by decide) (qIe mk 62) (fun x p h' hs2 => up_r hm 62 x p h' fun s' e => by rw [hs2 s' e]; have := h.1.lo; omega) h (fun s' e => by cases e; rfl)
end
end Go.Sim.YtifjflhnfjhijaaGreatDoor
