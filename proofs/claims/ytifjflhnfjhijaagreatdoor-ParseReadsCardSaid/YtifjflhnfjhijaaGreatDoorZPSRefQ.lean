/- What is proved: the reference's parser reads names, expressions and dimensions as the plain one does. -/
import Derived.Test.YtifjflhnfjhijaaGreatDoorZPSRefP
import Derived.Test.YtifjflhnfjhijaaGreatDoorZPSPevB

namespace Go.Sim.YtifjflhnfjhijaaGreatDoor
open Go.RowKit Go.Proofs Go.Proofs.Tryz
section rules
variable {L : List GToken} {α β γ : Type} {x : Except PE PS} {s : PS} {p : Gref13P} {Y : PR γ} {k : Int} {d : Nat}
theorem leaf {a : γ} (h : St13 L x p) (hT : (bnd x fun s => .ok (a, s)) = Y) : q3s L Y (a, p) := by
 subst hT
 cases x with
 | error e => exact ⟨fun _ _ he => (by cases he), h⟩
 | ok s => exact ⟨fun _ _ he => (by cases he; rfl), h⟩
theorem leafo {a : γ} (h : St13 L (.ok s) p) (hT : .ok (a, s) = Y) : q3s L Y (a, p) := leaf (x := .ok s) h hT
theorem rV {f : PS -> PR α} {g : α × PS -> PR γ} {R : α × Gref13P -> Prop} {K : α × Gref13P -> Prop} (hT : (bnd x fun s => bnd (f s) g) = Y) (hR : ∃ r, R r /\ q3s L (bnd x f) r) (hg : ∀ s, OkP (Vg k d s) (f s)) (hx : St13 L x p)
    (hk : ∀ a p' x', St13 L x' p' -> Fol k d x x' -> (bnd x' fun s => g (a, s)) = Y -> K (a, p')) : Call R K := by
  obtain ⟨⟨a, p'⟩, h1, h2, h3⟩ := hR
  refine ⟨_, h1, hk a p' (stX (bnd x f)) h3 ?_ ?_⟩
  · intro b hb
    cases x with
    | error e => cases hb
    | ok s =>
      obtain ⟨q, h4, h5⟩ := qA2.1 hb
      cases h5
      have go := hg s q h4 hx.1.fin
      exact ⟨s, rfl, go.2.2.1, go.2.2.2⟩
  · subst hT
    cases x with
    | error e => rfl
    | ok s =>
      show (bnd (stX (f s)) fun s => g (a, s)) = bnd (f s) g
      have h2 : ∀ b t, f s = .ok (b, t) -> a = b := h2
      cases hf : f s with
      | error e => rfl
      | ok q => obtain ⟨b, t⟩ := q; rw [h2 b t hf]; rfl
theorem rVo {f : PS -> PR α} {g : α × PS -> PR γ} {R : α × Gref13P -> Prop} {K : α × Gref13P -> Prop} (hT : bnd (f s) g = Y) (hR : ∃ r, R r /\ q3s L (bnd (.ok s) f) r) (hg : ∀ s, OkP (Vg k d s) (f s)) (hx : St13 L (.ok s) p)
    (hk : ∀ a p' x', St13 L x' p' -> Fol k d (.ok s) x' -> (bnd x' fun s => g (a, s)) = Y -> K (a, p')) : Call R K := rV (x := .ok s) (f := f) (g := g) hT hR hg hx hk
theorem rU {f : PS -> Except PE PS} {g : PS -> PR γ} {R : Gref13P -> Prop} {K : Gref13P -> Prop} (hT : (bnd x fun s => bnd (f s) g) = Y) (hR : ∃ r, R r /\ St13 L (bnd x f) r) (hg : ∀ s, OkP (Onw k d s) (f s)) (hx : St13 L x p)
    (hk : ∀ p' x', St13 L x' p' -> Fol k d x x' -> bnd x' g = Y -> K p') : Call R K := by
  obtain ⟨p', h1, h2⟩ := hR
  refine ⟨_, h1, hk p' (bnd x f) h2 ?_ (by rw [q1b]; exact hT)⟩
  intro b hb
  cases x with
  | error e => cases hb
  | ok s =>
    have go := hg s b hb hx.1.fin
    exact ⟨s, rfl, go.2.2.1, go.2.2.2⟩
theorem rUo {f : PS -> Except PE PS} {g : PS -> PR γ} {R : Gref13P -> Prop} {K : Gref13P -> Prop} (hT : bnd (f s) g = Y) (hR : ∃ r, R r /\ St13 L (bnd (.ok s) f) r) (hg : ∀ s, OkP (Onw k d s) (f s)) (hx : St13 L (.ok s) p)
    (hk : ∀ p' x', St13 L x' p' -> Fol k d (.ok s) x' -> bnd x' g = Y -> K p') : Call R K := rU (x := .ok s) (f := f) hT hR hg hx hk
theorem rNum {lo hi : Int} {so : GRat -> Bool} {g : GRat × PS -> PR γ} {K : Int × Gref13P -> Prop} (hT : (bnd x fun s => bnd (numP so s) g) = Y) (hso : ∀ a : GRat, qDi a -> so a = (a.D == 1 && decide (lo <= a.N) && decide (a.N <= hi))) (hx : St13 L x p)
    (hk : ∀ n p' x', St13 L x' p' -> Fol 0 1 x x' -> (∀ b, x' = .ok b -> lo <= n /\ n <= hi) -> (bnd x' fun s => g (⟨n, 1⟩, s)) = Y -> K (n, p')) : Call (q0p p lo hi) K := by
  obtain ⟨⟨n, p'⟩, h1, h2, h3⟩ := qVn hx hso
  have key : ∀ s b q, x = .ok s -> numP so s = .ok (q, b) -> q = ⟨n, 1⟩ /\ lo <= n /\ n <= hi := by
    intro s b q hs hq
    have gs : Gd L s := by rw [hs] at hx; exact hx.1
    obtain ⟨hn, hb⟩ := qMa gs hq
    rw [hso q hn, Bool.and_eq_true, Bool.and_eq_true, decide_eq_true_iff, decide_eq_true_iff, beq_iff_eq] at hb
    have e : n = q.N := h2 _ b (by rw [hs]; show (bnd (numP so s) fun q => .ok (q.1.N, q.2)) = _; rw [hq]; rfl)
    obtain ⟨N, D⟩ := q
    obtain ⟨⟨hb1, hb2⟩, hb3⟩ := hb
    simp only at e hb1 hb2 hb3
    subst e hb1
    exact ⟨rfl, hb2, hb3⟩
  refine ⟨_, h1, hk n p' _ h3 ?_ ?_ ?_⟩
  · intro b hb
    cases x with
    | error e => cases hb
    | ok s =>
      obtain ⟨q, h4, h5⟩ := qA2.1 hb
      cases h5
      have h4 : (bnd (numP so s) fun q => .ok (q.1.N, q.2)) = .ok q := h4
      obtain ⟨q2, h6, h7⟩ := qA2.1 h4
      cases h7
      have go := q8y so s q2 h6 hx.1.fin
      exact ⟨s, rfl, go.2.2.1, go.2.2.2⟩
  · intro b hb
    cases x with
    | error e => cases hb
    | ok s =>
      obtain ⟨q, h4, h5⟩ := qA2.1 hb
      have h4 : (bnd (numP so s) fun q => .ok (q.1.N, q.2)) = .ok q := h4
      obtain ⟨q2, h6, h7⟩ := qA2.1 h4
      obtain ⟨q3, b3⟩ := q2
      exact (key s b3 q3 rfl h6).2
  · subst hT
    cases x with
    | error e => rfl
    | ok s =>
      show (bnd (stX (bnd (numP so s) fun q => .ok (q.1.N, q.2))) fun s => g (⟨n, 1⟩, s)) = bnd (numP so s) g
      cases hf : numP so s with
      | error e => rfl
      | ok q => obtain ⟨q, b⟩ := q; rw [(key s b q rfl hf).1]; rfl
theorem qVo {lo hi : Int} {so : GRat -> Bool} {g : GRat × PS -> PR γ} {K : Int × Gref13P -> Prop} (hT : bnd (numP so s) g = Y) (hso : ∀ a : GRat, qDi a -> so a = (a.D == 1 && decide (lo <= a.N) && decide (a.N <= hi))) (hx : St13 L (.ok s) p)
    (hk : ∀ n p' x', St13 L x' p' -> Fol 0 1 (.ok s) x' -> (∀ b, x' = .ok b -> lo <= n /\ n <= hi) -> (bnd x' fun s => g (⟨n, 1⟩, s)) = Y -> K (n, p')) : Call (q0p p lo hi) K := rNum (x := .ok s) hT hso hx hk
theorem rIs {w : ByteArray} {F G : PS -> PR γ} {A B : Prop} (hT : (bnd x fun s => if isP w s = true then F s else G s) = Y) (hx : St13 L x p)
    (ht : ∀ s, x = .ok s -> isP w s = true -> St13 L (.ok s) (bxR L s) -> p = bxR L s -> F s = Y -> A) (hf : isX w x = false -> bnd x G = Y -> B) : Call (q07 p w) fun b => Br b A B := by
  refine Call.mk (is_r hx w) ?_
  cases x with
  | error e => exact Br.f rfl (hf rfl hT)
  | ok s =>
    have hT : (if isP w s = true then F s else G s) = Y := hT
    show Br (isP w s) A B
    cases hw : isP w s with
    | true => rw [if_pos hw] at hT; obtain ⟨g, rfl⟩ := hx; exact Br.t rfl (ht s rfl hw ⟨g, rfl⟩ rfl hT)
    | false => rw [if_neg (by rw [hw]; decide)] at hT; exact Br.f rfl (hf hw hT)
theorem qIv {w : ByteArray} {F G : PS -> PR γ} {A B : Bool × Gref13P -> Prop} (hT : (bnd x fun s => if isP w s = true then F s else G s) = Y) (hx : St13 L x p)
    (ht : ∀ s, x = .ok s -> isP w s = true -> St13 L (.ok (q0i s)) (bxR L (q0i s)) -> Fol 0 1 x (.ok (q0i s)) -> F s = Y -> A (true, bxR L (q0i s))) (hf : isX w x = false -> bnd x G = Y -> B (false, p)) : Call (q08 p w) fun q => Br q.1 (A q) (B q) := by
  cases x with
  | error e => exact Call.mk (qAx hx rfl) (Br.f rfl (hf rfl hT))
  | ok s =>
    have hT : (if isP w s = true then F s else G s) = Y := hT
    cases hw : isP w s with
    | true =>
      rw [if_pos hw] at hT
      obtain ⟨g, rfl⟩ := hx
      have gn := g.gn (q13 hw)
      exact Call.mk (qL6 g hw) (Br.t rfl (ht s rfl hw ⟨gn.g, rfl⟩ (fun b hb => by cases hb; exact ⟨s, rfl, by rw [gn.o]; omega, gn.l⟩) hT))
    | false => rw [if_neg (by rw [hw]; decide)] at hT; exact Call.mk (qAx hx hw) (Br.f rfl (hf hw hT))
theorem qMg {w : ByteArray} {F G : PS -> PR γ} {A B : Bool × Gref13P -> Prop} (hT : (bnd x fun s => if isP w s = true then F s else G s) = Y) (hx : St13 L x p)
    (ht : ∀ s, x = .ok s -> isP w s = true -> St13 L (.ok (q0i s)) (bxR L (q0i s)) -> Fol 0 1 x (.ok (q0i s)) -> F s = Y -> A (true, bxR L (q0i s))) (hf : isX w x = false -> bnd x G = Y -> B (false, p)) : Call (q08 p w) fun q => Br (!q.1) (B q) (A q) := by
  obtain ⟨q, h1, h2⟩ := qIv hT hx ht hf
  refine ⟨q, h1, ?_⟩
  cases hq : q.1 with
  | true => exact Br.f (by rw [hq]; rfl) (h2.1 hq)
  | false => exact Br.t (by rw [hq]; rfl) (h2.2 hq)
theorem qRm {w : ByteArray} {y z : PR γ} {A B : Bool × Gref13P -> Prop} (hT : (if isP w s = true then y else z) = Y) (hx : St13 L (.ok s) p)
    (ht : isP w s = true -> St13 L (.ok (q0i s)) (bxR L (q0i s)) -> Fol 0 1 (.ok s) (.ok (q0i s)) -> y = Y -> A (true, bxR L (q0i s))) (hf : isP w s = false -> z = Y -> B (false, p)) : Call (q08 p w) fun q => Br q.1 (A q) (B q) :=
  qIv (x := .ok s) (F := fun _ => y) (G := fun _ => z) hT hx (fun s' e h1 h2 h3 h4 => by cases e; exact ht h1 h2 h3 h4) hf
theorem rIso {w : ByteArray} {y z : PR γ} {A B : Prop} (hT : (if isP w s = true then y else z) = Y) (hx : St13 L (.ok s) p)
    (ht : isP w s = true -> y = Y -> A) (hf : isP w s = false -> z = Y -> B) : Call (q07 p w) fun b => Br b A B :=
  rIs (x := .ok s) (F := fun _ => y) (G := fun _ => z) hT hx (fun s' e h1 _ _ h4 => by cases e; exact ht h1 h4) hf
theorem qYa {F : PS -> PR γ} {K : Gref13P -> Prop} (hT : (bnd x fun s => F (s.1, s.2 - 1)) = Y) (hx : St13 L x p) (h1 : ∀ s, x = .ok s -> 1 <= s.2) (hk : ∀ p' x', St13 L x' p' -> Fol (-1) 0 x x' -> bnd x' F = Y -> K p') : Call (q0t p) K := by
 refine ⟨{ p with Open := IntKind.i64.wrap (p.Open - 1) }, qGw (by unfold qAv; exact Let.it rfl), ?_⟩
 cases x with
 | error e =>
  obtain ⟨k1, k2, k3, k4, k5, k6⟩ := hx
  exact hk _ (.error e) ⟨k1, k2, k3, k4, k5, k6⟩ (fun b hb => by cases hb) hT
 | ok s =>
  obtain ⟨g, rfl⟩ := hx
  have hi := g.hi
  have h1 := h1 s rfl
  refine hk _ (.ok (s.1, s.2 - 1)) ⟨⟨g.suf, g.fin, by show 0 <= s.2 - 1; omega, by show s.2 - 1 <= 60; omega, g.len, g.tok⟩, ?_⟩ (fun b hb => by cases hb; exact ⟨s, rfl, by show s.2 - 1 = _; omega, by show s.1.length + 0 <= _; omega⟩) hT
  show Gref13P.mk _ _ (IntKind.i64.wrap (s.2 - 1)) _ _ = _
  rw [wi (by omega) (by omega)]; rfl
theorem rL {w : ByteArray} {F : PS -> PR γ} {K : Gref13P -> Prop} (hT : (bnd x fun s => bnd (q1q [w] s) F) = Y) (hx : St13 L x p) (h1 : ∀ s, x = .ok s -> 1 <= s.2) (hk : ∀ p' x', St13 L x' p' -> Fol (-1) 1 x x' -> bnd x' F = Y -> K p') : Call (q03 p w) fun q => Call (q0t q) K := by
 have e : (fun s => bnd (q1q [w] s) F) = fun s => bnd (q0u w s) fun s => F (s.1, s.2 - 1) := by
  funext s
  unfold q1q
  rw [qTe, q1b]; rfl
 rw [e] at hT
 refine rU hT (q2k hx w) (q09 w) hx fun p' x' h f hT => qYa hT h (fun s hs => ?_) fun p2 x2 h2 f2 hT => hk p2 x2 h2 ?_ hT
 ·obtain ⟨a, ha, h3, _⟩ := f s hs
  have := h1 a ha
  omega
 ·intro b hb
  obtain ⟨c, hc, h3, h4⟩ := (f.trans f2) b hb
  exact ⟨c, hc, by omega, by omega⟩
end rules
variable {L : List GToken} {x : Except PE PS} {p : Gref13P}
theorem qOw {a : GRat} (h : qDi a) : intB a = (a.D == 1 && decide (0 <= a.N) && decide (a.N <= 1000000)) := by unfold intB; rw [decide_eq_true h.nn, Bool.and_true]
theorem qUn {a : GRat} (h : qDi a) : qGu a = (a.D == 1 && decide (0 <= a.N) && decide (a.N <= 64)) := by unfold qGu; rw [decide_eq_true h.nn, Bool.and_true]
theorem qYb {a : GRat} (_ : qDi a) : denB a = (a.D == 1 && decide (1 <= a.N) && decide (a.N <= 64)) := rfl
theorem qYc {a : GRat} (_ : qDi a) : qPm a = (a.D == 1 && decide (1 <= a.N) && decide (a.N <= 1)) := by
 obtain ⟨n, d⟩ := a
 rw [Bool.eq_iff_iff]
 unfold qPm
 rw [GRat.beq_iff, Bool.and_eq_true, Bool.and_eq_true, decide_eq_true_iff, decide_eq_true_iff, beq_iff_eq]
 simp only [GRat.mk.injEq]
 omega
def numT (s : PS) : PR GTree := bnd (intP s) fun i => .ok (qGi i.1, i.2)
theorem qRn (s : PS) : OkP (Vg 0 1 s) (numT s) := (q6y s).bnd fun _ h => .pure h
theorem qYd (h : St13 L x p) : ∃ r, q2h p r /\ q3s L (bnd x numT) r := by
 refine qJw ?_
 unfold q4g
 obtain ⟨Y, hT⟩ : ∃ Y, bnd x numT = Y := ⟨_, rfl⟩
 rw [hT]
 have hT : (bnd x fun s => bnd (numP intB s) fun q => .ok (qGi q.1.N, q.2)) = Y := by
  rw [← hT]; congr 1; funext s; unfold numT intP; rw [q1b]; rfl
 exact rNum hT (fun _ => qOw) h fun n p1 x1 h1 _ _ hT => leaf h1 hT
theorem qNp (h : St13 L x p) : ∃ r, q22 p r /\ q3s L (bnd x q6m) r := by
 refine qH5 ?_
 unfold q2r
 obtain ⟨Y, hT⟩ : ∃ Y, bnd x q6m = Y := ⟨_, rfl⟩
 rw [hT]
 unfold q6m at hT
 refine qIv hT h (fun s _ _ h1 _ hT => ?_) fun _ hT => ?_
 ·refine qVo hT (fun _ => qUn) h1 fun n p1 x1 h2 _ hb hT => ?_
  cases x1 with
  | error e => exact Let.it (leaf h2 hT)
  | ok b =>
   obtain ⟨b1, b2⟩ := hb b rfl
   exact Let.as (-n) (show IntKind.i64.wrap (0 - n) = _ by rw [wi (by omega) (by omega)]; omega) (leaf h2 hT)
 ·exact rNum hT (fun _ => qUn) h fun n p1 x1 h2 _ _ hT => leaf h2 hT
theorem el_r (h : St13 L x p) : ∃ r, q6a p r /\ q3s L (bnd x elP) r := by
  refine qL4 ?_
  unfold q5s
  obtain ⟨Y, hT⟩ : ∃ Y, bnd x elP = Y := ⟨_, rfl⟩
  rw [hT]
  unfold elP at hT
  refine rV hT (q9i h) q0q h fun nm p1 x1 h1 _ hT => qMg hT h1 (fun s _ _ h2 _ hT => ?_) fun _ hT => leaf h1 hT
  dsimp only at hT ⊢
  generalize q0i s = s1 at h2 hT ⊢
  refine ⟨fun b => b = ((hdT s1.1).Kind == 3), Br.t rfl (Call.mk (qL5 h2.1 rfl rfl) rfl), ?_⟩
  rintro _ rfl
  refine Br.e (fun e => ?_) fun e => ?_
  · rw [if_pos e] at hT
    have hT : (bnd (numT s1) fun t => bnd (q0u (ByteArray.mk #[93]) t.2) fun s2 => .ok (qDg nm [t.1], s2)) = Y := by unfold numT; rw [q1b]; exact hT
    exact rVo hT (qYd h2) qRn h2 fun t p2 x2 h2 _ hT => rU hT (q2k h2 _) (q09 _) h2 fun p3 x3 h3 _ hT => leaf h3 hT
  · rw [if_neg e] at hT
    refine rVo hT (q9i h2) q0q h2 fun v p2 x2 h2 _ hT => ?_
    dsimp only at hT ⊢
    refine ⟨fun b => b = (isX (ByteArray.mk #[43]) x2 || isX (ByteArray.mk #[45]) x2), Call.mk (is_r h2 _) ?_, ?_⟩
    · cases isX (ByteArray.mk #[43]) x2 with
      | true => exact Br.t rfl rfl
      | false => exact Br.f rfl (Call.mk (is_r h2 _) rfl)
    rintro _ rfl
    refine ⟨fun p' i => ∃ x', St13 L x' p' /\ (bnd x' fun s' => bnd (q0u (ByteArray.mk #[93]) s') fun s2 => .ok (qDg nm [i], s2)) = Y, ?_, ?_⟩
    · cases x2 with
      | error e => exact Br.f rfl ⟨_, h2, hT⟩
      | ok b =>
        have hT : (if isP (ByteArray.mk #[43]) b = true then _ else _) = Y := hT
        obtain ⟨g, rfl⟩ := h2
        have fin : ∀ (k : Int), isP (ByteArray.mk #[43]) b = true \/ isP (ByteArray.mk #[45]) b = true -> (bnd (intP (q0i b)) fun i => bnd (q0u (ByteArray.mk #[93]) i.2) fun s2 => .ok (qDg nm [tk k [tk 2 [qDg v []], qGi i.1]], s2)) = Y ->
            Let (IntKind.i64.wrap ((bxR L b).I + 1)) fun x48 => Call (q2h { bxR L b with I := x48 }) fun x49 => ∃ x', St13 L x' x49.2 /\ (bnd x' fun s' => bnd (q0u (ByteArray.mk #[93]) s') fun s2 => .ok (qDg nm [{ GTree.zero with Kind := k, Kids := [tk 2 [qDg v []], x49.1] }], s2)) = Y := by
          intro k hw hT
          have hg : Gn L 1 b (q0i b) := g.gn (hw.elim q13 q13)
          refine Let.as _ g.wrR ?_
          have h3 : St13 L (.ok (q0i b)) (bxR L (q0i b)) := ⟨hg.g, rfl⟩
          show Call (q2h (bxR L (q0i b))) _
          have hT : (bnd (numT (q0i b)) fun t => bnd (q0u (ByteArray.mk #[93]) t.2) fun s2 => .ok (qDg nm [tk k [tk 2 [qDg v []], t.1]], s2)) = Y := by unfold numT; rw [q1b]; exact hT
          exact rVo hT (qYd h3) qRn h3 fun t p4 x4 h4 _ hT => ⟨x4, h4, hT⟩
        have h2 : St13 L (.ok b) (bxR L b) := ⟨g, rfl⟩
        have e43 : isX (ByteArray.mk #[43]) (.ok b) = isP (ByteArray.mk #[43]) b := rfl
        have e45 : isX (ByteArray.mk #[45]) (.ok b) = isP (ByteArray.mk #[45]) b := rfl
        rw [e43, e45]
        by_cases hp : isP (ByteArray.mk #[43]) b = true
        · rw [if_pos hp] at hT
          have hm : isP (ByteArray.mk #[45]) b = false := by
            unfold isP isT at hp ⊢
            simp only [Bool.and_eq_true, decide_eq_true_iff] at hp
            rw [hp.2]
            simp
          refine Br.t (by rw [hp]; rfl) (Call.mk (is_r h2 _) ?_)
          rw [e45, hm]
          refine ⟨fun k => k = 8, Br.f rfl rfl, ?_⟩
          rintro _ rfl
          exact fin 8 (.inl hp) hT
        · rw [if_neg hp] at hT
          by_cases hm : isP (ByteArray.mk #[45]) b = true
          · rw [if_pos hm] at hT
            refine Br.t (by rw [hm, Bool.or_true]) (Call.mk (is_r h2 _) ?_)
            rw [e45, hm]
            refine ⟨fun k => k = 9, Br.t rfl rfl, ?_⟩
            rintro _ rfl
            exact fin 9 (.inr hm) hT
          · rw [if_neg hm] at hT
            exact Br.f (by rw [Bool.not_eq_true _ |>.mp hp, Bool.not_eq_true _ |>.mp hm]; rfl) ⟨_, h2, hT⟩
    · rintro p3 i ⟨x3, h3, hT⟩
      exact rU hT (q2k h3 _) (q09 _) h3 fun p4 x4 h4 _ hT => leaf h4 hT
end Go.Sim.YtifjflhnfjhijaaGreatDoor

/- What is proved: the reference's parser reads references, expressions and dimensions as the plain one does. -/
namespace Go.Sim.YtifjflhnfjhijaaGreatDoor
open Go.RowKit Go.Proofs Go.Proofs.Tryz
variable {L : List GToken} {x : Except PE PS} {p : Gref13P}
def farR (L : List GToken) (p : Gref13P) : Nat := if p.Bad = 0 then ((L.length : Int) - p.I).toNat + 1 else 0
theorem qUo {s : PS} : farR L (bxR L s) = s.1.length + 1 := by
 show (if (0 : Int) = 0 then ((L.length : Int) - ((L.length : Int) - (s.1.length : Int))).toNat + 1 else 0) = _
 rw [if_pos rfl]
 show ((L.length : Int) - ((L.length : Int) - (s.1.length : Int))).toNat + 1 = _
 omega
theorem qIw {s : PS} {x' : Except PE PS} {p' : Gref13P} (h : St13 L x' p') (f : Fol 0 1 (.ok s) x') : farR L p' < farR L (bxR L s) := by
 rw [qUo]
 cases x' with
 | error e =>
  have : farR L p' = 0 := by unfold farR; rw [if_neg h.badE]
  omega
 | ok b =>
  obtain ⟨_, rfl⟩ := h
  rw [qUo]
  have := f.ok
  omega
def RoomT (x : Except PE PS) (n : Nat) : Prop := n <= 1000003 /\ ∀ s, x = .ok s -> n + s.1.length <= 1000002
theorem RoomT.next {s : PS} {x' : Except PE PS} {n : Nat} (h : RoomT (.ok s) n) (f : Fol 0 1 (.ok s) x') : RoomT x' (n + 1) := by
 have := h.2 s rfl
 refine ⟨by omega, fun b hb => ?_⟩
 subst hb
 have := f.ok
 omega
theorem RoomT.start (h : St13 L x p) (n : Nat) (hn : n <= 2) : RoomT x n := ⟨by omega, fun s hs => by
 subst hs
 have := h.1.le
 have := h.1.len
 omega⟩
theorem qTi (h : St13 L x p) : ∃ r, q2g p r /\ q3s L (bnd x refP) r := by
 refine qJx ?_
 unfold q4h
 obtain ⟨Y, hT⟩ : ∃ Y, bnd x refP = Y := ⟨_, rfl⟩
 rw [hT]
 unfold refP at hT
 refine rV hT (el_r h) qM7 h fun e p1 x1 h1 _ hT => ?_
 dsimp only at hT ⊢
 refine ⟨fun p' ks => ∃ x' n, St13 L x' p' /\ RoomT x' ks.length /\ (∀ s, x' = .ok s -> s.1.length < n) /\ (bnd x' fun s => bnd (elsP n ks s) fun q => .ok (tk 2 q.1, q.2)) = Y, fun p' _ => farR L p', ?_, ?_⟩
 ·cases x1 with
  | error e => exact ⟨_, 0, h1, RoomT.start h1 1 (by decide), (fun s hs => by cases hs), hT⟩
  | ok s => exact ⟨_, s.1.length + 1, h1, RoomT.start h1 1 (by decide), (fun s' hs => by cases hs; omega), hT⟩
 ·rintro p' ks ⟨x', n, h2, hR, hn, hT⟩
  cases x' with
  | error e => exact Call.mk (qAx h2 rfl) (Br.f rfl (leaf h2 hT))
  | ok s =>
   cases n with
   | zero => exact absurd (hn s rfl) (Nat.not_lt_zero _)
   | succ n =>
    have hT : (bnd (elsP (n + 1) ks s) fun q => .ok (tk 2 q.1, q.2)) = Y := hT
    rw [elsP, q6s, q1b, q1z] at hT
    refine qRm hT h2 (fun _ h3 f3 hT => ?_) fun _ hT => leafo h2 hT
    refine rVo hT (el_r h3) qM7 h3 fun e2 p4 x4 h4 f4 hT => AppP (by have := hR.1; simp only [List.length_singleton]; omega) ?_
    have f : Fol 0 1 (.ok s) x4 := fun b hb => by obtain ⟨a, ha, h5, h6⟩ := (f3.trans f4) b hb; exact ⟨a, ha, by omega, by omega⟩
    obtain ⟨g2, rfl⟩ := h2
    refine ⟨⟨x4, n, h4, ?_, fun b hb => ?_, hT⟩, qIw h4 f⟩
    ·rw [List.length_append, List.length_singleton]; exact hR.next f
    ·subst hb
     have := f.ok
     have := hn s rfl
     omega
theorem qNq (h : St13 L x p) : ∃ r, q37 p r /\ q3s L (bnd x fun s => if isP (ByteArray.mk #[100, 101, 114]) s = true then derP s else refP s) r := by
 refine qH6 ?_
 unfold q2s
 obtain ⟨Y, hT⟩ : ∃ Y, (bnd x fun s => if isP (ByteArray.mk #[100, 101, 114]) s = true then derP s else refP s) = Y := ⟨_, rfl⟩
 rw [hT]
 refine qMg hT h (fun s _ hw h1 f1 hT => ?_) fun _ hT => ?_
 ·unfold derP at hT
  have hm : q0u (ByteArray.mk #[100, 101, 114]) s = .ok (q0i s) := by unfold q0u; rw [if_pos hw]
  rw [hm] at hT
  have hT : (bnd (q2a (ByteArray.mk #[40]) (q0i s)) fun s2 => bnd (refP s2) fun r => bnd (q1q [(ByteArray.mk #[41])] r.2) fun s3 => .ok (tk 4 [r.1], s3)) = Y := hT
  refine rUo hT (qCc h1 _) (q0s _) h1 fun p2 x2 h2 f2 hT => rV hT (qTi h2) q6n h2 fun t p3 x3 h3 f3 hT => rL hT h3 (fun b hb => ?_) fun p4 x4 h4 _ hT => leaf h4 hT
  obtain ⟨c, hc, h5, _⟩ := (f2.trans f3) b hb
  cases hc
  have := h1.1.lo
  omega
 ·obtain ⟨r, h1, h2⟩ := qTi h
  rw [hT] at h2
  exact Call.mk h1 h2
theorem qDt {part : PS -> PR GTree} {EvP : Gref13P -> GTree × Gref13P -> Prop} {one other : ByteArray} {k k2 o : Int} (hne : one ≠ other) (hg : ∀ a, OkP (Vg 0 1 a) (part a))
    (hp : ∀ x p, St13 L x p -> (∀ s, x = .ok s -> s.2 = o) -> ∃ r, EvP p r /\ q3s L (bnd x part) r) (h : St13 L x p) (ho : ∀ s, x = .ok s -> s.2 = o) :
    Call (EvP p) fun x2 => Loop2 x2.2 x2.1 (fun (p80 : Gref13P) (t81 : GTree) next82 =>
      q16 (fun j88 => Call (q07 p80 one) fun x89 => Br x89 (j88 true) (Call (q07 p80 other) fun x91 => j88 x91)) (fun (x87 : Bool) =>
       Br x87 (Call (q07 p80 other) fun x93 => q16 (fun j96 => Br x93 (j96 k2) (j96 k)) (fun (k95 : Int) =>
         Let (IntKind.i64.wrap (p80.I + (1 : Int))) fun x97 => Call (EvP ({ p80 with I := x97 })) fun x98 => next82 x98.2 ({ GTree.zero with Kind := k95, Kids := [t81, x98.1] })))
        (q3s L (bnd x (q9q part one k other k2)) (t81, p80)))) := by
  obtain ⟨Y, hT⟩ : ∃ Y, bnd x (q9q part one k other k2) = Y := ⟨_, rfl⟩
  rw [hT]
  unfold q9q at hT
  refine rV hT (hp x p h ho) hg h fun t p1 x1 h1 f1 hT => ?_
  dsimp only at hT ⊢
  refine ⟨fun p' t => ∃ x' n, St13 L x' p' /\ (∀ s, x' = .ok s -> s.2 = o /\ s.1.length < n) /\ (bnd x' fun s => rowP part one k other k2 n t s) = Y, fun p' _ => farR L p', ?_, ?_⟩
  · cases x1 with
    | error e => exact ⟨_, 0, h1, (fun s hs => by cases hs), hT⟩
    | ok s =>
      refine ⟨_, s.1.length + 1, h1, (fun s' hs => ?_), hT⟩
      cases hs
      obtain ⟨a, ha, h2, _⟩ := f1 s rfl
      have := ho a ha
      exact ⟨by omega, by omega⟩
  · rintro p' t ⟨x', n, h2, hn, hT⟩
    refine ⟨fun b => b = (isX one x' || isX other x'), Call.mk (is_r h2 _) ?_, ?_⟩
    · cases isX one x' with
      | true => exact Br.t rfl rfl
      | false => exact Br.f rfl (Call.mk (is_r h2 _) rfl)
    rintro _ rfl
    cases x' with
    | error e => exact Br.f rfl (leaf (a := t) h2 hT)
    | ok s =>
      obtain ⟨n1, n2⟩ := hn s rfl
      cases n with
      | zero => exact absurd n2 (Nat.not_lt_zero _)
      | succ n =>
        have hT : rowP part one k other k2 (n + 1) t s = Y := hT
        rw [rowP] at hT
        obtain ⟨g, rfl⟩ := h2
        have h2 : St13 L (.ok s) (bxR L s) := ⟨g, rfl⟩
        have e1 : isX one (.ok s) = isP one s := rfl
        have e2 : isX other (.ok s) = isP other s := rfl
        have fin : ∀ (kk : Int), isP one s = true \/ isP other s = true -> (bnd (part (q0i s)) fun r => rowP part one k other k2 n (tk kk [t, r.1]) r.2) = Y ->
            Let (IntKind.i64.wrap ((bxR L s).I + (1 : Int))) fun x97 => Call (EvP ({ bxR L s with I := x97 })) fun x98 =>
              (∃ x' n, St13 L x' x98.2 /\ (∀ s, x' = .ok s -> s.2 = o /\ s.1.length < n) /\ (bnd x' fun s => rowP part one k other k2 n { GTree.zero with Kind := kk, Kids := [t, x98.1] } s) = Y) /\ farR L x98.2 < farR L (bxR L s) := by
          intro kk hw hT
          have hgn : Gn L 1 s (q0i s) := g.gn (hw.elim q13 q13)
          refine Let.as _ g.wrR ?_
          have h3 : St13 L (.ok (q0i s)) (bxR L (q0i s)) := ⟨hgn.g, rfl⟩
          show Call (EvP (bxR L (q0i s))) _
          refine rVo hT (hp _ _ h3 (fun b hb => by cases hb; exact n1)) hg h3 fun u p4 x4 h4 f4 hT => ?_
          have f : Fol 0 1 (.ok s) x4 := fun b hb => by
            obtain ⟨a, ha, h5, h6⟩ := f4 b hb
            cases ha
            have e : (q0i s).2 = s.2 := rfl
            have := hgn.l
            exact ⟨s, rfl, by omega, by omega⟩
          refine ⟨⟨x4, n, h4, fun b hb => ?_, hT⟩, qIw h4 f⟩
          subst hb
          have := f.ok
          exact ⟨by omega, by omega⟩
        rw [e1, e2]
        by_cases hp1 : isP one s = true
        · rw [if_pos hp1] at hT
          have hm : isP other s = false := by
            unfold isP isT at hp1 ⊢
            simp only [Bool.and_eq_true, decide_eq_true_iff] at hp1
            rw [hp1.2, decide_eq_false hne, Bool.and_false]
          refine Br.t (by rw [hp1]; rfl) (Call.mk (is_r h2 _) ?_)
          rw [e2, hm]
          refine ⟨fun kk => kk = k, Br.f rfl rfl, ?_⟩
          rintro kk rfl
          exact fin kk (.inl hp1) hT
        · rw [if_neg hp1] at hT
          by_cases hm : isP other s = true
          · rw [if_pos hm] at hT
            refine Br.t (by rw [hm, Bool.or_true]) (Call.mk (is_r h2 _) ?_)
            rw [e2, hm]
            refine ⟨fun kk => kk = k2, Br.t rfl rfl, ?_⟩
            rintro kk rfl
            exact fin kk (.inr hm) hT
          · rw [if_neg hm] at hT
            exact Br.f (by rw [Bool.not_eq_true _ |>.mp hp1, Bool.not_eq_true _ |>.mp hm]; rfl) (leafo (a := t) h2 hT)
theorem qPr (s : ByteArray) (hs : s ≠ ByteArray.mk #[]) : ∃ k, q2n s k /\ (fnIx s < 0 -> k = 0) /\ (¬ fnIx s < 0 -> k = fnIx s /\ 0 < k) := by
 obtain ⟨P, hP⟩ : ∃ P : ByteArray -> Bool, P = fun y => decide (s = y) := ⟨_, rfl⟩
 obtain ⟨F, hF⟩ : ∃ F : List ByteArray, F = [(ByteArray.mk #[115, 113, 114, 116]), (ByteArray.mk #[101, 120, 112]), (ByteArray.mk #[108, 111, 103]), (ByteArray.mk #[115, 105, 110]), (ByteArray.mk #[99, 111, 115]), (ByteArray.mk #[97, 116, 97, 110])] := ⟨_, rfl⟩
 have hl : F.length = 6 := by rw [hF]; rfl
 have e : fnIx s = if q3m P F < 0 then -1 else 9 + q3m P F := by
  have h0 : ∀ y ∈ List.replicate 9 (ByteArray.mk #[]), P y = false := fun y hy => by
   rw [List.mem_replicate] at hy
   rw [hP, hy.2]
   exact decide_eq_false hs
  have h1 : (List.replicate 9 (ByteArray.mk #[])).findIdx? P = none := List.findIdx?_eq_none_iff.2 h0
  show q3m (fun y => decide (s = y)) (List.replicate 9 (ByteArray.mk #[]) ++ [(ByteArray.mk #[115, 113, 114, 116]), (ByteArray.mk #[101, 120, 112]), (ByteArray.mk #[108, 111, 103]), (ByteArray.mk #[115, 105, 110]), (ByteArray.mk #[99, 111, 115]), (ByteArray.mk #[97, 116, 97, 110])]) = _
  rw [← hP, ← hF]
  unfold q3m
  rw [List.findIdx?_append, h1]
  cases F.findIdx? P with
  | none => rfl
  | some i =>
   have : ¬ ((i : Int) < 0) := by omega
   simp [this]
   omega
 have hge : -1 <= q3m P F := by
  unfold q3m
  split <;> omega
 refine ⟨if q3m P F < 0 then 0 else 9 + q3m P F, qE3 ?_, fun h => ?_, fun h => ?_⟩
 ·unfold q83
  rw [← hF]
  refine Loop1.first F P fun i k hi hP2 hk => ?_
  rw [hl] at hi
  refine Br.d (fun hlt => ?_) fun hn => ?_
  ·have hlt : i < 6 := by rw [hl] at hlt; omega
   refine At.nat (by omega) fun y hy => ?_
   have key : (s.toList == y.toList) = decide (s = y) := by rw [Bool.eq_iff_iff, q9p, decide_eq_true_iff]
   rw [key]
   refine Br.d (fun e => ?_) fun e => Let.as _ (wi1 (by omega)) (hk y hy (by rw [hP]; exact decide_eq_false e))
   have hf := qFi (p := P) hy (by rw [hP]; exact decide_eq_true e) hP2
   rw [hf, if_neg (by omega)]
   exact Let.as (9 + (i : Int)) (wi (by omega) (by omega)) rfl
  ·rw [hl] at hn
   have hf := qFj (p := P) (xs := F) fun j y hj hy => hP2 j y (by omega) hy
   rw [hf]; rfl
 ·rw [e] at h
  split at h
  ·rename_i h1; rw [if_pos h1]
  ·omega
 ·rw [e] at h ⊢
  split at h
  ·omega
  ·rename_i h1; rw [if_neg h1, if_neg h1]; exact ⟨rfl, by omega⟩
end Go.Sim.YtifjflhnfjhijaaGreatDoor
