/- What is proved: the reference's parser reads items, rules and files as the plain one does. -/
import Derived.Test.YtifjflhnfjhijaaGreatDoorZPSRefT

namespace Go.Sim.YtifjflhnfjhijaaGreatDoor
open Go.RowKit Go.Proofs Go.Proofs.Tryz
variable {L : List GToken} {x : Except PE PS} {p : Gref13P}
theorem Fol.mono {k m : Int} {d e : Nat} {x y : Except PE PS} (h : Fol k d x y) (hk : k = m) (he : e <= d) : Fol m e x y := fun b hb => by
 obtain ⟨a, ha, h1, h2⟩ := h b hb
 exact ⟨a, ha, by omega, by omega⟩
theorem qUq (v w : ByteArray) (s : PS) : qA3 [v, w] s = bnd (q0u v s) (q0u w) := by
 show bnd (q0u v s) (qA3 [w]) = _
 congr 1; funext s; exact qTe w s
theorem rL2 {γ : Type} {Y : PR γ} {v w : ByteArray} {F : PS -> PR γ} {K : Gref13P -> Prop} (hT : (bnd x fun s => bnd (q1q [v, w] s) F) = Y) (hx : St13 L x p) (h1 : ∀ s, x = .ok s -> 1 <= s.2) (hk : ∀ p' x', St13 L x' p' -> Fol (-1) 2 x x' -> bnd x' F = Y -> K p') : Call (q03 p v) fun q => Call (q03 q w) fun q => Call (q0t q) K := by
 have e : (fun s => bnd (q1q [v, w] s) F) = fun s => bnd (q0u v s) fun s => bnd (q1q [w] s) F := by
  funext s
  unfold q1q
  rw [qUq, q1b, q1b]
  congr 1; funext s
  rw [qTe, q1b]
 rw [e] at hT
 refine rU hT (q2k hx v) (q09 v) hx fun p' x' h f hT => rL hT h (fun s hs => ?_) fun p2 x2 h2 f2 hT => hk p2 x2 h2 ((f.trans f2).mono (by omega) (by omega)) hT
 obtain ⟨a, ha, h3, _⟩ := f s hs
 have := h1 a ha
 omega
theorem qUr (h : St13 L x p) : ∃ r, q41 p r /\ q3s L (bnd x qC1) r := by
 refine qIp ?_
 unfold q3f
 obtain ⟨Y, hT⟩ : ∃ Y, bnd x qC1 = Y := ⟨_, rfl⟩
 rw [hT]
 unfold qC1 intP at hT
 simp only [q1b, q1z] at hT
 refine qMg hT h (fun s _ _ h1 _ hT => qVo hT (fun _ => qOw) h1 fun n p2 x2 h2 _ _ hT => rU hT (q2k h2 _) (q09 _) h2 fun p3 x3 h3 _ hT => leaf h3 hT) fun _ hT => leaf h hT
section
variable (hW : WordT L) (hr : ∀ a : GRat, a.ok -> q2e a a.right)
include hW hr
theorem qVs (h : St13 L x p) : ∃ r, q56 p r /\ q3s L (bnd x qDp) r := by
 refine qH2 ?_
 unfold q2o
 obtain ⟨Y, hT⟩ : ∃ Y, bnd x qDp = Y := ⟨_, rfl⟩
 rw [hT]
 unfold qDp at hT
 simp only [qUq, q1b] at hT
 refine rV hT (qNq h) (fun s => OkP.ite (fun _ => qId s) fun _ => q6n s) h fun o p1 x1 h1 _ hT => ?_
 dsimp only at hT
 refine qIv hT h1 (fun s _ _ h2 _ hT => rVo hT (qDu hW hr h2) (q15 62) h2 fun e p2 x2 h3 _ hT => leaf h3 hT) fun _ hT => ?_
 refine rU hT (q2k h1 _) (q09 _) h1 fun p2 x2 h2 _ hT => rU hT (q2k h2 _) (q09 _) h2 fun p3 x3 h3 _ hT => ?_
 refine rV hT (qDu hW hr h3) (q15 62) h3 fun a p4 x4 h4 _ hT => ?_
 dsimp only at hT
 refine rU hT (q2k h4 _) (q09 _) h4 fun p5 x5 h5 _ hT => ?_
 refine rV hT (qDu hW hr h5) (q15 62) h5 fun b p6 x6 h6 _ hT => ?_
 dsimp only at hT
 exact rU hT (q2k h6 _) (q09 _) h6 fun p7 x7 h7 _ hT => leaf h7 hT
def qG6 (st : PS) : PR (List GTree) := if isP (ByteArray.mk #[40]) st = true then bnd (q2a (ByteArray.mk #[40]) st) fun s2 => bnd (qJv (s2.1.length + 1) [] s2) fun ks => bnd (q1q [(ByteArray.mk #[41])] ks.2) fun s3 => .ok (ks.1, s3) else .ok ([], st)
omit hW hr in
theorem qPs (s : PS) : OkP (Vg 0 0 s) (qG6 s) := OkP.ite (fun _ => (q0s _ _).bnd fun _ h5 => (qNi _ _ _).bnd fun _ h6 => (q1k _ _).bnd fun _ h7 => .pure (((h5.trans h6).trans h7 |>.cast (by omega)).le (by omega))) fun _ => .pure (Onw.refl s)
theorem qYh (h : St13 L x p) : ∃ r, q64 p r /\ q3s L (bnd x qG6) r := by
 refine qIt ?_
 unfold q3j
 obtain ⟨Y, hT⟩ : ∃ Y, bnd x qG6 = Y := ⟨_, rfl⟩
 rw [hT]
 unfold qG6 at hT
 refine rIsN hT h (fun s hx _ h1 hp hT => ?_) fun _ hT => leaf h hT
 rw [hp]
 refine rUo hT (qCc h1 _) (q0s _) h1 fun p2 x2 h2 f2 hT => ?_
 have hopen : ∀ b, x2 = .ok b -> 1 <= b.2 := fun b hb => by
  obtain ⟨c, hc, h5, _⟩ := f2 b hb
  cases hc
  have := h1.1.lo
  omega
 clear hp h h1 f2 hx
 refine ⟨fun p' ks more => ∃ x', St13 L x' p' /\ RoomT x' ks.length /\ (∀ b, x' = .ok b -> 1 <= b.2) /\
  ((more = true /\ (∀ e, x' = .error e -> ks.length = 0) /\ ∃ n, (∀ s, x' = .ok s -> s.1.length < n) /\ (bnd x' fun s => bnd (qJv n ks s) fun ks => bnd (q1q [(ByteArray.mk #[41])] ks.2) fun s3 => .ok (ks.1, s3)) = Y) \/ (more = false /\ (bnd x' fun s => bnd (q1q [(ByteArray.mk #[41])] s) fun s3 => .ok (ks, s3)) = Y)), fun p' _ more => 2 * farR L p' + (if more then 1 else 0), ?_, ?_⟩
 ·cases x2 with
  | error e => exact ⟨_, h2, RoomT.start h2 0 (by decide), hopen, .inl ⟨rfl, (fun _ _ => rfl), 0, (fun s hs => by cases hs), hT⟩⟩
  | ok s => exact ⟨_, h2, RoomT.start h2 0 (by decide), hopen, .inl ⟨rfl, (fun _ he => by cases he), s.1.length + 1, (fun s' hs => by cases hs; omega), hT⟩⟩
 ·rintro p' ks more ⟨x', h3, hR, ho, ⟨rfl, hz, n, hn, hT⟩ | ⟨rfl, hT⟩⟩
  ·refine Br.t rfl ?_
   cases x' with
   | error e =>
    obtain ⟨r1, e1, k1⟩ := q9i h3
    have k1 : St13 L (.error e) r1.2 := k1.2
    obtain ⟨r2, e2, k2⟩ := q2k k1 (ByteArray.mk #[61])
    obtain ⟨r3, e3, k3⟩ := qDu hW hr k2
    have k3 : St13 L (.error e) r3.2 := k3.2
    refine Call.mk e1 (Call.mk e2 (Call.mk e3 (AppP (by have := hR.1; simp only [List.length_singleton]; omega) (Call.mk (qAx k3 rfl) ⟨⟨.error e, k3, ⟨?_, fun s hs => (by cases hs)⟩, (fun b hb => by cases hb), .inr ⟨rfl, hT⟩⟩, ?_⟩))))
    ·have := hz e rfl
     rw [List.length_append, List.length_singleton]
     omega
    ·have f1 : farR L p' = 0 := by unfold farR; rw [if_neg h3.badE]
     have f2 : farR L r3.2 = 0 := by unfold farR; rw [if_neg k3.badE]
     show 2 * farR L r3.2 + (if false = true then 1 else 0) < 2 * farR L p' + (if true = true then 1 else 0)
     rw [f1, f2]; decide
   | ok s =>
    cases n with
    | zero => exact absurd (hn s rfl) (Nat.not_lt_zero _)
    | succ n =>
     have hT : (bnd (qJv (n + 1) ks s) fun ks => bnd (q1q [(ByteArray.mk #[41])] ks.2) fun s3 => .ok (ks.1, s3)) = Y := hT
     rw [qJv] at hT
     simp only [q6s, q1b, q1z] at hT
     refine rVo hT (q9i h3) q0q h3 fun v p4 x4 h4 f4 hT => ?_
     dsimp only at hT
     refine rU hT (q2k h4 _) (q09 _) h4 fun p5 x5 h5 f5 hT => ?_
     refine rV hT (qDu hW hr h5) (q15 62) h5 fun e p6 x6 h6 f6 hT => AppP (by have := hR.1; simp only [List.length_singleton]; omega) ?_
     dsimp only at hT
     have f : Fol 0 3 (.ok s) x6 := ((f4.trans f5).trans f6).mono (by omega) (by omega)
     have hR2 := hR.next (f.mono (e := 1) rfl (by omega))
     have ho6 : ∀ b, x6 = .ok b -> 1 <= b.2 := fun b hb => by
      obtain ⟨c, hc, h7, _⟩ := f b hb
      cases hc
      have := ho s rfl
      omega
     obtain ⟨g3, rfl⟩ := h3
     have hlt := qIw h6 (f.mono (e := 1) rfl (by omega))
     cases hw : isX (ByteArray.mk #[44]) x6 with
     | false =>
      refine Call.mk (qAx h6 hw) ⟨⟨x6, h6, ?_, ho6, .inr ⟨rfl, ?_⟩⟩, ?_⟩
      ·rw [List.length_append, List.length_singleton]; exact hR2
      ·cases x6 with
       | error e => exact hT
       | ok b =>
        have hw : isP (ByteArray.mk #[44]) b = false := hw
        have hT : (if isP (ByteArray.mk #[44]) b = true then _ else _) = Y := hT
        rw [if_neg (by rw [hw]; decide)] at hT
        exact hT
      ·show 2 * farR L p6 + (if false = true then 1 else 0) < 2 * farR L (bxR L s) + (if true = true then 1 else 0)
       simp; omega
     | true =>
      cases x6 with
      | error e => cases hw
      | ok b =>
       have hw : isP (ByteArray.mk #[44]) b = true := hw
       have hT : (if isP (ByteArray.mk #[44]) b = true then _ else _) = Y := hT
       rw [if_pos hw] at hT
       obtain ⟨g6, rfl⟩ := h6
       have gn := g6.gn (q13 hw)
       have h7 : St13 L (.ok (q0i b)) (bxR L (q0i b)) := ⟨gn.g, rfl⟩
       have f7 : Fol 0 1 (.ok s) (.ok (q0i b)) := fun c hc => by
        cases hc
        have := f.ok
        have := gn.l
        exact ⟨s, rfl, by rw [gn.o]; omega, by omega⟩
       have hlt2 := qIw h7 f7
       refine Call.mk (qL6 g6 hw) ⟨⟨.ok (q0i b), h7, ?_, fun c hc => ?_, .inl ⟨rfl, (fun _ he => by cases he), n, fun c hc => ?_, hT⟩⟩, ?_⟩
       ·rw [List.length_append, List.length_singleton]; exact hR.next f7
       ·cases hc
        rw [gn.o]
        exact ho6 b rfl
       ·cases hc
        have := f7.ok
        have := hn s rfl
        omega
       ·show 2 * farR L (bxR L (q0i b)) + (if true = true then 1 else 0) < 2 * farR L (bxR L s) + (if true = true then 1 else 0)
        omega
  ·exact Br.f rfl (rL hT h3 ho fun p4 x4 h4 _ hT => leaf h4 hT)
end
theorem qYi {α β : Type} {R : α -> Prop} {b : α -> (Gref13P -> β -> Prop) -> Prop} {k : Gref13P -> β -> Prop} (I : Gref13P -> β -> Prop) (h : Call R fun q => b q I) (hk : ∀ p t, I p t -> k p t) : Call R fun q => q3r (b q) k := by
 obtain ⟨q, h1, h2⟩ := h
 exact ⟨q, h1, I, h2, hk⟩
theorem qVt {γ : Type} {Y : PR γ} {s : PS} {w : ByteArray} {y z : PR γ} {A B : Bool × Gref13P -> Prop} (hT : (if isP w s = true then y else z) = Y) (hx : St13 L (.ok s) p)
    (ht : isP w s = true -> St13 L (.ok (q0i s)) (bxR L (q0i s)) -> Fol 0 1 (.ok s) (.ok (q0i s)) -> y = Y -> A (true, bxR L (q0i s))) (hf : isP w s = false -> z = Y -> B (false, p)) : Call (q08 p w) fun q => Br (!q.1) (B q) (A q) :=
  qMg (x := .ok s) (F := fun _ => y) (G := fun _ => z) hT hx (fun s' e h1 h2 h3 h4 => by cases e; exact ht h1 h2 h3 h4) hf
theorem qTj (st : PS) : qKy st = bnd (q7v st) fun v => bnd (qC1 v.2) fun n => bnd (q0u (ByteArray.mk #[58]) n.2) fun s1 => bnd (q7v s1) fun a => bnd (qG6 a.2) fun ks => .ok ({ GTree.zero with Kind := 35, Name := v.1, N := n.1, Alias := a.1, Kids := ks.1 }, ks.2) := by
 unfold qKy qG6
 simp only [q6s, q1b, q1z]
theorem qTk {γ : Type} {Y : PR γ} {o : Int} {rule : PS -> PR GTree} {EvR : Gref13P -> GTree × Gref13P -> Prop} (hg : ∀ a, OkP (Vg 0 1 a) (rule a))
    (hp : ∀ x p, St13 L x p -> (∀ s, x = .ok s -> s.2 = o) -> ∃ r, EvR p r /\ q3s L (bnd x rule) r) (h : St13 L x p) (ho : ∀ s, x = .ok s -> s.2 = o)
    {F : List GTree × PS -> PR γ} (hT : (bnd x fun s => bnd (q8b rule (s.1.length + 1) [] s) F) = Y) {K : Gref13P -> List GTree -> Prop} (hk : ∀ ks p' x', St13 L x' p' -> Fol 0 0 x x' -> (bnd x' fun s => F (ks, s)) = Y -> K p' ks) :
    q3r (fun j150 => Loop2 p ([] : List GTree) (fun (x162 : Gref13P) (x163 : List GTree) next164 =>
     Br (x162.Bad == (0 : Int)) (Call (q07 x162 (ByteArray.mk #[101, 110, 100])) fun x167 =>
      Br (!x167) (Call (EvR x162) fun x169 => App 104 x163 ([x169.1]) fun x171 => next164 x169.2 x171) (j150 x162 x163)) (j150 x162 x163))) K := by
  refine ⟨fun p' ks => ∃ x', St13 L x' p' /\ Fol 0 0 x x' /\ (bnd x' fun s => F (ks, s)) = Y, ?_, fun p' ks ⟨x', h1, f1, hT⟩ => hk ks p' x' h1 f1 hT⟩
  refine ⟨fun p' ks => ∃ x' n, St13 L x' p' /\ Fol 0 0 x x' /\ RoomT x' ks.length /\ (∀ s, x' = .ok s -> s.1.length < n) /\ (bnd x' fun s => bnd (q8b rule n ks s) F) = Y, fun p' _ => farR L p', ?_, ?_⟩
  · cases x with
    | error e => exact ⟨_, 0, h, Fol.refl _, RoomT.start h 0 (by decide), (fun s hs => by cases hs), hT⟩
    | ok s => exact ⟨_, s.1.length + 1, h, Fol.refl _, RoomT.start h 0 (by decide), (fun s' hs => by cases hs; omega), hT⟩
  · rintro p' ks ⟨x', n, h2, f2, hR, hn, hT⟩
    cases x' with
    | error e => exact Br.f (beq_eq_false_iff_ne.2 h2.badE) ⟨.error e, h2, f2, hT⟩
    | ok s =>
      cases n with
      | zero => exact absurd (hn s rfl) (Nat.not_lt_zero _)
      | succ n =>
        have hT : bnd (q8b rule (n + 1) ks s) F = Y := hT
        rw [q8b] at hT
        refine Br.t (by rw [h2.bad0]; rfl) (Call.mk (is_r h2 _) ?_)
        show Br (!isP (ByteArray.mk #[101, 110, 100]) s) _ _
        cases hw : isP (ByteArray.mk #[101, 110, 100]) s with
        | true =>
          rw [if_pos hw] at hT
          exact Br.f rfl ⟨.ok s, h2, f2, hT⟩
        | false =>
          rw [if_neg (by rw [hw]; decide), q1b] at hT
          refine Br.t rfl (rVo hT (hp _ _ h2 fun s' hs => ?_) hg h2 fun e p4 x4 h4 f4 hT => AppP (by have := hR.1; simp only [List.length_singleton]; omega) ?_)
          · cases hs
            obtain ⟨a, ha, h5, _⟩ := f2 s rfl
            have := ho a ha
            omega
          · dsimp only at hT ⊢
            obtain ⟨g2, rfl⟩ := h2
            refine ⟨⟨x4, n, h4, (f2.trans f4).mono (by omega) (by omega), ?_, fun b hb => ?_, hT⟩, qIw h4 f4⟩
            · rw [List.length_append, List.length_singleton]; exact hR.next f4
            · subst hb
              have := f4.ok
              have := hn s rfl
              omega
theorem qRq {γ : Type} {Y : PR γ} {rule : PS -> PR GTree} {EvR : Gref13P -> GTree × Gref13P -> Prop} (hg : ∀ a, OkP (Vg 0 1 a) (rule a))
    (hp : ∀ x p, St13 L x p -> ∃ r, EvR p r /\ q3s L (bnd x rule) r) (h : St13 L x p)
    {F : List GTree × PS -> PR γ} (hT : (bnd x fun s => bnd (q8b rule (s.1.length + 1) [] s) F) = Y) {K : Gref13P -> List GTree -> Prop} (hk : ∀ ks p' x', St13 L x' p' -> Fol 0 0 x x' -> (bnd x' fun s => F (ks, s)) = Y -> K p' ks) :
    q3r (fun j150 => Loop2 p ([] : List GTree) (fun (x162 : Gref13P) (x163 : List GTree) next164 =>
     Br (x162.Bad == (0 : Int)) (Call (q07 x162 (ByteArray.mk #[101, 110, 100])) fun x167 =>
      Br (!x167) (Call (EvR x162) fun x169 => App 104 x163 ([x169.1]) fun x171 => next164 x169.2 x171) (j150 x162 x163)) (j150 x162 x163))) K := by
  refine ⟨fun p' ks => ∃ x', St13 L x' p' /\ Fol 0 0 x x' /\ (bnd x' fun s => F (ks, s)) = Y, ?_, fun p' ks ⟨x', h1, f1, hT⟩ => hk ks p' x' h1 f1 hT⟩
  refine ⟨fun p' ks => ∃ x' n, St13 L x' p' /\ Fol 0 0 x x' /\ RoomT x' ks.length /\ (∀ s, x' = .ok s -> s.1.length < n) /\ (bnd x' fun s => bnd (q8b rule n ks s) F) = Y, fun p' _ => farR L p', ?_, ?_⟩
  · cases x with
    | error e => exact ⟨_, 0, h, Fol.refl _, RoomT.start h 0 (by decide), (fun s hs => by cases hs), hT⟩
    | ok s => exact ⟨_, s.1.length + 1, h, Fol.refl _, RoomT.start h 0 (by decide), (fun s' hs => by cases hs; omega), hT⟩
  · rintro p' ks ⟨x', n, h2, f2, hR, hn, hT⟩
    cases x' with
    | error e => exact Br.f (beq_eq_false_iff_ne.2 h2.badE) ⟨.error e, h2, f2, hT⟩
    | ok s =>
      cases n with
      | zero => exact absurd (hn s rfl) (Nat.not_lt_zero _)
      | succ n =>
        have hT : bnd (q8b rule (n + 1) ks s) F = Y := hT
        rw [q8b] at hT
        refine Br.t (by rw [h2.bad0]; rfl) (Call.mk (is_r h2 _) ?_)
        show Br (!isP (ByteArray.mk #[101, 110, 100]) s) _ _
        cases hw : isP (ByteArray.mk #[101, 110, 100]) s with
        | true =>
          rw [if_pos hw] at hT
          exact Br.f rfl ⟨.ok s, h2, f2, hT⟩
        | false =>
          rw [if_neg (by rw [hw]; decide), q1b] at hT
          refine Br.t rfl (rVo hT (hp _ _ h2) hg h2 fun e p4 x4 h4 f4 hT => AppP (by have := hR.1; simp only [List.length_singleton]; omega) ?_)
          · dsimp only at hT ⊢
            obtain ⟨g2, rfl⟩ := h2
            refine ⟨⟨x4, n, h4, (f2.trans f4).mono (by omega) (by omega), ?_, fun b hb => ?_, hT⟩, qIw h4 f4⟩
            · rw [List.length_append, List.length_singleton]; exact hR.next f4
            · subst hb
              have := f4.ok
              have := hn s rfl
              omega
section
variable (hW : WordT L) (hr : ∀ a : GRat, a.ok -> q2e a a.right)
include hW hr
theorem qYj : ∀ (n : Nat) (x : Except PE PS) (p : Gref13P), St13 L x p -> (∀ s, x = .ok s -> 61 <= (n : Int) + s.2) -> ∃ r, q42 p r /\ q3s L (bnd x (qDh n)) r := by
 intro n
 induction n with
 | zero =>
  intro x p h hn
  cases x with
  | ok s =>
   have := hn s rfl
   have := h.1.hi
   omega
  | error e =>
   refine qCb ?_
   unfold q2j
   obtain ⟨r1, e1, k1⟩ := qDu hW hr h
   have k1 : St13 L (.error e) r1.2 := k1.2
   obtain ⟨r2, e2, k2⟩ := q2k k1 (ByteArray.mk #[61])
   obtain ⟨r3, e3, k3⟩ := qDu hW hr k2
   have k3 : St13 L (.error e) r3.2 := k3.2
   obtain ⟨r4, e4, k4⟩ := q2k k3 (ByteArray.mk #[59])
   exact Call.mk (qAx h rfl) (Br.f rfl (Call.mk (is_r h _) (Br.f rfl (Call.mk e1 (Call.mk e2 (Call.mk e3 (Call.mk e4 ⟨fun _ _ he => (by cases he), k4⟩)))))))
 | succ n ih =>
  intro x p h hn
  refine qCb ?_
  unfold q2j
  obtain ⟨Y, hT⟩ : ∃ Y, bnd x (qDh (n + 1)) = Y := ⟨_, rfl⟩
  rw [hT]
  have hT : (bnd x fun st => qDh (n + 1) st) = Y := hT
  unfold qDh at hT
  refine qIv hT h (fun s hs _ h1 _ hT => ?_) fun _ hT => rIs hT h (fun s hs _ h1 hp hT => ?_) fun _ hT => ?_
  ·refine rUo hT (qCc h1 _) (q0s _) h1 fun p2 x2 h2 f2 hT => rV hT (qTi h2) q6n h2 fun a p3 x3 h3 f3 hT => ?_
   dsimp only at hT
   refine rU hT (q2k h3 _) (q09 _) h3 fun p4 x4 h4 f4 hT => rV hT (qTi h4) q6n h4 fun b p5 x5 h5 f5 hT => ?_
   dsimp only at hT
   refine rL2 hT h5 (fun c hc => ?_) fun p6 x6 h6 _ hT => leaf h6 hT
   obtain ⟨d, hd, h8, _⟩ := (((f2.trans f3).trans f4).trans f5) c hc
   cases hd
   have := h1.1.lo
   omega
  ·have hp : p = bxR L s := hp
   rw [hp]
   have hn := hn s hs
   have lo := h1.1.lo
   refine rUo hT (qCc h1 _) (q0s _) h1 fun p2 x2 h2 f2 hT => rV hT (q9i h2) q0q h2 fun v p3 x3 h3 f3 hT => ?_
   dsimp only at hT
   refine rU hT (q2k h3 _) (q09 _) h3 fun p4 x4 h4 f4 hT => ?_
   simp only [intP, q1b, q1z] at hT
   refine rNum hT (fun _ => qOw) h4 fun a p5 x5 h5 f5 _ hT => ?_
   dsimp only at hT
   refine rU hT (q2k h5 _) (q09 _) h5 fun p6 x6 h6 f6 hT => rNum hT (fun _ => qOw) h6 fun b p7 x7 h7 f7 _ hT => ?_
   dsimp only at hT
   refine rU hT (q2k h7 _) (q09 _) h7 fun p8 x8 h8 f8 hT => ?_
   have f := ((((((f2.trans f3).trans f4).trans f5).trans f6).trans f7).trans f8)
   have hop : ∀ c, x8 = .ok c -> c.2 = s.2 + 1 := fun c hc => by
    obtain ⟨d, hd, h9, _⟩ := f c hc
    cases hd
    omega
   refine qTk (o := s.2 + 1) (qIf n) (fun x p h hs => ih x p h fun c hc => by rw [hs c hc]; omega) h8 hop hT fun ks p9 x9 h9 f9 hT => ?_
   dsimp only at hT
   refine rL2 hT h9 (fun c hc => ?_) fun p10 x10 h10 _ hT => leaf h10 hT
   obtain ⟨d, hd, h11, _⟩ := f9 c hc
   have := hop d hd
   omega
  ·refine rV hT (qDu hW hr h) (q15 62) h fun a p2 x2 h2 _ hT => ?_
   dsimp only at hT
   refine rU hT (q2k h2 _) (q09 _) h2 fun p3 x3 h3 _ hT => rV hT (qDu hW hr h3) (q15 62) h3 fun b p4 x4 h4 _ hT => ?_
   dsimp only at hT
   exact rU hT (q2k h4 _) (q09 _) h4 fun p5 x5 h5 _ hT => leaf h5 hT
variable {mk : Int -> Int -> GRat} (hm : ∀ a d : Int, -64 <= a -> a <= 64 -> 1 <= d -> d <= 64 -> ∃ e, q67 a d (mk a d, e))
include hm
omit hW hr in
theorem qUs (h : St13 L x p) : ∃ r, q40 p r /\ q3s L (bnd x (qJu mk)) r := by
 refine qIs ?_
 unfold q3i
 obtain ⟨Y, hT⟩ : ∃ Y, bnd x (qJu mk) = Y := ⟨_, rfl⟩
 rw [hT]
 unfold qJu at hT
 exact qIv hT h (fun s _ _ h1 _ hT => rVo hT (qYg hm h1) (qGk mk 62) h1 fun d p2 x2 h2 _ hT => AppP (by simp) (leaf h2 hT)) fun _ hT => leaf h hT
theorem qUt (h : St13 L x p) : ∃ r, q3v p r /\ q3s L (bnd x (qFo mk)) r := by
  refine qIr ?_
  unfold q3h
  obtain ⟨Y, hT⟩ : ∃ Y, bnd x (qFo mk) = Y := ⟨_, rfl⟩
  rw [hT]
  unfold qFo at hT
  refine qYi (fun p' t => ∃ x', St13 L x' p' /\ (bnd x' fun s' => bnd (q0u (ByteArray.mk #[59]) s') fun s2 => .ok (t, s2)) = Y) (qIv hT h (fun s hs _ h1 _ hT => ?_) fun _ hT => ?_) fun p' t hI => ?_
  · refine rVo hT (q9i h1) q0q h1 fun v p2 x2 h2 _ hT => ?_
    dsimp only at hT
    refine rV hT (qUs hm h2) (qC4 mk) h2 fun d p3 x3 h3 _ hT => ?_
    dsimp only at hT
    refine rU hT (q2k h3 _) (q09 _) h3 fun p4 x4 h4 _ hT => rV hT (qDu hW hr h4) (q15 62) h4 fun e p5 x5 h5 _ hT => ⟨x5, h5, hT⟩
  · refine ⟨fun b => b = (isX (ByteArray.mk #[118, 97, 114]) x || isX (ByteArray.mk #[102, 108, 111, 119]) x), Call.mk (is_r h _) ?_, ?_⟩
    · cases isX (ByteArray.mk #[118, 97, 114]) x with
      | true => exact Br.t rfl rfl
      | false => exact Br.f rfl (Call.mk (is_r h _) rfl)
    rintro _ rfl
    cases hb : (isX (ByteArray.mk #[118, 97, 114]) x || isX (ByteArray.mk #[102, 108, 111, 119]) x) with
    | true =>
      cases x with
      | error e => cases hb
      | ok s =>
        have hb : isP (ByteArray.mk #[118, 97, 114]) s = true \/ isP (ByteArray.mk #[102, 108, 111, 119]) s = true := by rw [← Bool.or_eq_true]; exact hb
        have hT : (if isP (ByteArray.mk #[118, 97, 114]) s = true \/ isP (ByteArray.mk #[102, 108, 111, 119]) s = true then _ else _) = Y := hT
        rw [if_pos hb] at hT
        obtain ⟨g, rfl⟩ := h
        have gn : Gn L 1 s (q0i s) := g.gn (hb.elim q13 q13)
        have h1 : St13 L (.ok (q0i s)) (bxR L (q0i s)) := ⟨gn.g, rfl⟩
        refine Br.t rfl (Call.mk (is_r (x := .ok s) ⟨g, rfl⟩ _) (Let.as _ g.wrR ?_))
        show Call (q0l (bxR L (q0i s))) _
        refine rVo hT (q9i h1) q0q h1 fun v p2 x2 h2 _ hT => ?_
        dsimp only at hT
        refine rV hT (qUr h2) q9h h2 fun d p3 x3 h3 _ hT => ?_
        dsimp only at hT
        exact rV hT (qUs hm h3) (qC4 mk) h3 fun d p4 x4 h4 _ hT => ⟨x4, h4, hT⟩
    | false =>
      have hT : (bnd x fun st => if isP (ByteArray.mk #[112, 97, 114, 116]) st = true then bnd (qKy (q0i st)) fun t => bnd (q0u (ByteArray.mk #[59]) t.2) fun s1 => .ok (t.1, s1)
          else if isP (ByteArray.mk #[115, 116, 97, 114, 116]) st = true then bnd (qDp (q0i st)) fun t => bnd (q0u (ByteArray.mk #[59]) t.2) fun s1 => .ok (t.1, s1)
          else qDh 62 st) = Y := by
        rw [← hT]
        cases x with
        | error e => rfl
        | ok s =>
          have hb : ¬ (isP (ByteArray.mk #[118, 97, 114]) s = true \/ isP (ByteArray.mk #[102, 108, 111, 119]) s = true) := by
            rw [← Bool.or_eq_true]
            have hb : (isP (ByteArray.mk #[118, 97, 114]) s || isP (ByteArray.mk #[102, 108, 111, 119]) s) = false := hb
            rw [hb]; decide
          show _ = (if _ then _ else _)
          rw [if_neg hb]; rfl
      refine Br.f rfl (qIv hT h (fun s hs _ h1 _ hT => ?_) fun _ hT => qIv hT h (fun s hs _ h1 _ hT => ?_) fun _ hT => ?_)
      · rw [qTj] at hT
        simp only [q1b, q1z] at hT
        refine rVo hT (q9i h1) q0q h1 fun v p2 x2 h2 _ hT => ?_
        dsimp only at hT
        refine rV hT (qUr h2) q9h h2 fun d p3 x3 h3 _ hT => ?_
        dsimp only at hT
        refine rU hT (q2k h3 _) (q09 _) h3 fun p4 x4 h4 _ hT => rV hT (q9i h4) q0q h4 fun a p5 x5 h5 _ hT => ?_
        dsimp only at hT
        exact rV hT (qYh hW hr h5) qPs h5 fun ks p6 x6 h6 _ hT => ⟨x6, h6, hT⟩
      · exact rVo hT (qVs hW hr h1) qHg h1 fun t p2 x2 h2 _ hT => ⟨x2, h2, hT⟩
      · obtain ⟨r, e1, e2⟩ := qYj hW hr 62 x p h fun s hs => by subst hs; have := h.1.lo; omega
        rw [show bnd x (qDh 62) = Y from hT] at e2
        exact Call.mk e1 e2
  · obtain ⟨x', h1, hT⟩ := hI
    exact rU hT (q2k h1 _) (q09 _) h1 fun p2 x2 h2 _ hT => leaf h2 hT
omit hW hr hm in
theorem qOy : ∀ (n : Nat) (ks : List GTree) (s : PS), qGj mk n ks s = bnd (q8b (qFo mk) n ks s) fun q => bnd (q0u (ByteArray.mk #[101, 110, 100]) q.2) fun s1 => .ok (q.1, s1)
 | 0, _, _ => rfl
 | n + 1, ks, s => by
  rw [qGj, q8b]
  by_cases hw : isP (ByteArray.mk #[101, 110, 100]) s = true
  ·rw [if_pos hw, if_pos hw, q1z]
   dsimp only
   unfold q0u
   rw [if_pos hw]; rfl
  ·rw [if_neg hw, if_neg hw, q1b]
   exact congrArg _ (funext fun r => qOy n _ _)
theorem qYk (h : St13 L x p) : ∃ r, q5x p r /\ q3s L (bnd x (qIc mk)) r := by
  refine qIq ?_
  unfold q3g
  obtain ⟨Y, hT⟩ : ∃ Y, bnd x (qIc mk) = Y := ⟨_, rfl⟩
  rw [hT]
  unfold qIc at hT
  refine ⟨fun p' ks => ∃ x' n, St13 L x' p' /\ RoomT x' ks.length /\ (∀ s, x' = .ok s -> s.1.length < n) /\ (bnd x' fun s => bnd (q6x mk n ks s) fun q => .ok (tk 30 q.1, q.2)) = Y, fun p' _ => farR L p', ?_, ?_⟩
  · cases x with
    | error e => exact ⟨_, 0, h, RoomT.start h 0 (by decide), (fun s hs => by cases hs), hT⟩
    | ok s => exact ⟨_, s.1.length + 1, h, RoomT.start h 0 (by decide), (fun s' hs => by cases hs; omega), hT⟩
  rintro p' ks ⟨x', n, h2, hR, hn, hT⟩
  cases x' with
  | error e => exact Br.f (beq_eq_false_iff_ne.2 h2.badE) (leaf (a := tk 30 ks) h2 hT)
  | ok s =>
    cases n with
    | zero => exact absurd (hn s rfl) (Nat.not_lt_zero _)
    | succ n =>
      have hn := hn s rfl
      have hT : (bnd (q6x mk (n + 1) ks s) fun q => .ok (tk 30 q.1, q.2)) = Y := hT
      rw [q6x] at hT
      simp only [q6s, q1b, q1z, qRj] at hT
      obtain ⟨g, rfl⟩ := h2
      have h2 : St13 L (.ok s) (bxR L s) := ⟨g, rfl⟩
      refine Br.t rfl (Call.mk (qL5 g rfl rfl) ?_)
      by_cases hk : (hdT s.1).Kind = 0
      · rw [if_pos hk] at hT
        exact Br.f (by rw [hk]; rfl) (leafo (a := tk 30 ks) h2 hT)
      rw [if_neg hk] at hT
      refine Br.t (bne_iff_ne.2 hk) ?_
      have fin : ∀ {x' : Except PE PS} {p2 : Gref13P} (t : GTree), St13 L x' p2 -> Fol 0 1 (.ok s) x' -> (bnd x' fun s => bnd (q6x mk n (ks ++ [t]) s) fun q => .ok (tk 30 q.1, q.2)) = Y ->
          App 104 ks [t] fun z => (∃ x' n, St13 L x' p2 /\ RoomT x' z.length /\ (∀ s, x' = .ok s -> s.1.length < n) /\ (bnd x' fun s => bnd (q6x mk n z s) fun q => .ok (tk 30 q.1, q.2)) = Y) /\ farR L p2 < farR L (bxR L s) := by
        intro x' p2 t h3 f3 hT
        refine AppP (by have := hR.1; simp only [List.length_singleton]; omega) ⟨⟨x', n, h3, ?_, fun b hb => ?_, hT⟩, qIw h3 f3⟩
        · rw [List.length_append, List.length_singleton]; exact hR.next f3
        · subst hb
          have := f3.ok
          omega
      refine qRm hT h2 (fun _ h3 f3 hT => ?_) fun _ hT => ?_
      · unfold qRa at hT
        simp only [q6s, q1b, q1z] at hT
        refine rVo hT (q9i h3) q0q h3 fun v p4 x4 h4 f4 hT => ?_
        dsimp only at hT
        refine qYi (fun p' l => ∃ x', St13 L x' p' /\ Fol 0 1 (.ok s) x' /\ (bnd x' fun s' => bnd (q0u (ByteArray.mk #[59]) s') fun s1 => bnd (q6x mk n (ks ++ [{ GTree.zero with Kind := 31, Name := v, Kids := l }]) s1) fun q => .ok (tk 30 q.1, q.2)) = Y) (qIv hT h4 (fun b hb _ h5 f5 hT => ?_) fun _ hT => ?_) fun p' l hI => ?_
        · refine rVo hT (qYg hm h5) (qGk mk 62) h5 fun d p6 x6 h6 f6 hT => AppP (by simp) ⟨x6, h6, (((f3.trans f4).trans f5).trans f6).mono (by omega) (by omega), hT⟩
        · exact ⟨x4, h4, (f3.trans f4).mono (by omega) (by omega), hT⟩
        · obtain ⟨x', h1, f1, hT⟩ := hI
          exact rU hT (q2k h1 _) (q09 _) h1 fun p2 x2 h2 f2 hT => fin _ h2 ((f1.trans f2).mono (by omega) (by omega)) hT
      · have cls : ∀ (k : Int) (s1 : PS), St13 L (.ok s1) (bxR L s1) -> Fol 0 1 (.ok s) (.ok s1) -> (bnd (qC2 mk k s1) fun c => bnd (q6x mk n (ks ++ [c.1]) c.2) fun q => .ok (tk 30 q.1, q.2)) = Y -> ∃ x', St13 L x' (bxR L s1) /\ Fol 0 1 (.ok s) x' /\ (bnd x' fun s1 => bnd (qC2 mk k s1) fun c => bnd (q6x mk n (ks ++ [c.1]) c.2) fun q => .ok (tk 30 q.1, q.2)) = Y :=
          fun k s1 h1 f1 hT => ⟨.ok s1, h1, f1, hT⟩
        refine Call.mk (R := q08 (bxR L s) (ByteArray.mk #[99, 111, 110, 110, 101, 99, 116, 111, 114])) (x := if isP (ByteArray.mk #[99, 111, 110, 110, 101, 99, 116, 111, 114]) s = true then (true, bxR L (q0i s)) else (false, bxR L s)) ?_ ?_
        · split
          · exact qL6 g (by assumption)
          · exact qAx h2 (by rename_i hx; exact Bool.not_eq_true _ |>.mp hx)
        refine ⟨fun p' k => ∃ x', St13 L x' p' /\ Fol 0 1 (.ok s) x' /\ (bnd x' fun s1 => bnd (qC2 mk k s1) fun c => bnd (q6x mk n (ks ++ [c.1]) c.2) fun q => .ok (tk 30 q.1, q.2)) = Y, ?_, ?_⟩
        · by_cases hc : isP (ByteArray.mk #[99, 111, 110, 110, 101, 99, 116, 111, 114]) s = true
          · rw [if_pos hc]
            rw [if_neg (by rw [qUp hc (by decide)]; decide), if_pos hc] at hT
            have gn := g.gn (q13 hc)
            exact Br.t rfl (cls 2 (q0i s) ⟨gn.g, rfl⟩ (fun b hb => by cases hb; exact ⟨s, rfl, by rw [gn.o]; omega, gn.l⟩) hT)
          · rw [if_neg hc]
            rw [if_neg hc] at hT
            refine Br.f rfl (qVt hT h2 (fun _ h3 f3 hT => cls 1 _ h3 f3 hT) fun _ hT => ?_)
            obtain ⟨r, e1, e2⟩ := qOt g
            subst hT
            exact Call.mk e1 ⟨fun _ _ he => (by cases he), e2⟩
        · rintro p' k ⟨x', h3, f3, hT⟩
          unfold qC2 at hT
          simp only [q1b, q1z, qOy] at hT
          refine rV hT (q9i h3) q0q h3 fun v p4 x4 h4 f4 hT => ?_
          dsimp only at hT
          have hp : ∀ x p, St13 L x p -> (∀ s, x = .ok s -> s.2 = s.2) -> ∃ r, q3v p r /\ q3s L (bnd x (qFo mk)) r := fun x p h _ => qUt hW hr hm h
          have f34 := (f3.trans f4)
          refine qRq (qKz mk) (fun x p h => qUt hW hr hm h) h4 hT fun ks' p5 x5 h5 f5 hT => ?_
          dsimp only at hT
          refine rU hT (q2k h5 _) (q09 _) h5 fun p6 x6 h6 f6 hT => rU hT (q2k h6 _) (q09 _) h6 fun p7 x7 h7 f7 hT => ?_
          exact fin _ h7 ((((f34.trans f5).trans f6).trans f7).mono (by omega) (by omega)) hT
end
end Go.Sim.YtifjflhnfjhijaaGreatDoor
