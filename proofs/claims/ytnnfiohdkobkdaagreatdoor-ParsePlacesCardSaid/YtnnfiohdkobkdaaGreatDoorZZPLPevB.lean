/- What is proved: the parser's methods for names, expressions and dimensions read what the plain functions read. -/
import Derived.Test.YtnnfiohdkobkdaaGreatDoorZZPLPevA
import Derived.Test.YtnnfiohdkobkdaaGreatDoorZZPLWPt

namespace Go.Sim.YtnnfiohdkobkdaaGreatDoor
open Go.RowKit Go.Proofs Go.Proofs.Tryz
variable {L : List GToken} {s : PS}
/-- Where ways meet: a state and a value, and what is left to do. -/
abbrev JI {X β γ : Type} (L : List GToken) (o : Int) (n : Nat) (g : β → γ) (F : X → PS → Except PE β) (T : Except Gparsestop γ) (p : Gparseparser) (x : X) : Prop := ∃ s', p = boxP L s' ∧ Gd L s' ∧ s'.2 = o ∧ s'.1.length ≤ n ∧ cwP g (F x s') = T
theorem JoinP {X α : Type} {T : Except Gparsestop (α × Gparseparser)} {b : (Gparseparser → X → Prop) → Prop} {k : Gparseparser → X → Prop} (o : Int) (n : Nat) (F : X → PS → PR α)
    (hb : b (JI L o n (fun r : α × PS => (r.1, boxP L r.2)) F T)) (hk : ∀ x s', Gd L s' → s'.2 = o → s'.1.length ≤ n → cvP L (F x s') = T → k (boxP L s') x) : Join2 b k :=
  ⟨_, hb, by rintro _ x ⟨s', rfl, h1, h2, h3, h4⟩; exact hk x s' h1 h2 h3 h4⟩
/-- A loop that goes on through the tokens. -/
theorem LoopP {X β γ : Type} {g : β → γ} {T : Except Gparsestop γ} {x0 : X} {B : Gparseparser → X → (Gparseparser → X → Prop) → Prop} (P : X → Nat → Prop) (F : Nat → X → PS → Except PE β) {n0 : Nat}
    (h : Gd L s) (hP : P x0 s.1.length) (hn : s.1.length < n0) (hT : cwP g (F n0 x0 s) = T)
    (st : ∀ (n : Nat) (x : X) (a : PS) (k : Gparseparser → X → Prop), Gd L a → a.2 = s.2 → P x a.1.length → a.1.length < n + 1 → cwP g (F (n + 1) x a) = T →
      (∀ x' b, Gd L b → b.2 = s.2 → b.1.length < a.1.length → P x' b.1.length → cwP g (F n x' b) = T → k (boxP L b) x') → B (boxP L a) x k) : Loop2 (boxP L s) x0 B := by
  refine ⟨fun p x => ∃ n a, p = boxP L a ∧ Gd L a ∧ a.2 = s.2 ∧ P x a.1.length ∧ a.1.length < n ∧ cwP g (F n x a) = T, fun p _ => ((L.length : Int) - p.i_).toNat, ⟨n0, s, rfl, h, rfl, hP, hn, hT⟩, ?_⟩
  rintro _ x ⟨n, a, rfl, h1, h2, h3, h4, h5⟩
  cases n with
  | zero => omega
  | succ n =>
    refine st n x a _ h1 h2 h3 h4 h5 fun x' b g1 g2 g3 g4 g5 => ⟨⟨n, b, rfl, g1, g2, g4, by omega, g5⟩, ?_⟩
    show ((L.length : Int) - ((L.length : Int) - (b.1.length : Int))).toNat < ((L.length : Int) - ((L.length : Int) - (a.1.length : Int))).toNat
    omega
theorem AppP {α : Type} {xs ys : List α} {k : List α → Prop} (h : xs.length + ys.length ≤ 3000000) (hk : k (xs ++ ys)) : App 104 xs ys k :=
  ⟨by unfold maxLen; omega, by omega, Let.it hk⟩
theorem wholeT_ev (n : Int) : Ev_parse_whole n (wholeT n) := walk_parse_whole rfl
theorem bnd_ite {α β : Type} {c : Prop} [Decidable c] (x y : Except PE α) (f : α → Except PE β) : bnd (if c then x else y) f = if c then bnd x f else bnd y f := by split <;> rfl
theorem bnd_bnd {α β γ : Type} (x : Except PE α) (f : α → Except PE β) (g : β → Except PE γ) : bnd (bnd x f) g = bnd x fun a => bnd (f a) g := by cases x <;> rfl
theorem bnd_pure {α β : Type} (a : α) (f : α → Except PE β) : bnd (.ok a) f = f a := rfl
theorem bnd_err {α β : Type} (e : PE) (f : α → Except PE β) : bnd (.error e) f = .error e := rfl
theorem ifT {β γ : Type} {g : β → γ} {c : Prop} [Decidable c] {y z : Except PE β} {T : Except Gparsestop γ} (hc : c) (hT : cwP g (if c then y else z) = T) : cwP g y = T := by rw [if_pos hc] at hT; exact hT
theorem ifF {β γ : Type} {g : β → γ} {c : Prop} [Decidable c] {y z : Except PE β} {T : Except Gparsestop γ} (hc : ¬ c) (hT : cwP g (if c then y else z) = T) : cwP g z = T := by rw [if_neg hc] at hT; exact hT
/-- A call at the end. -/
theorem cqZ {α : Type} {x : PR α} {T : Except Gparsestop (α × Gparseparser)} {R : Except Gparsestop (α × Gparseparser) → Prop} (hT : cvP L x = T) (hR : R (cvP L x)) : CallX R (fun e => .error e = T) (fun r => .ok (r.1, r.2) = T) := by
  cases x with
  | ok a => exact ⟨_, hR, hT⟩
  | error e => exact ⟨_, hR, hT⟩
theorem el_ev (h : Gd L s) : Ev_parse_parser_el (boxP L s) (cvP L (elP s)) := by
  refine walk_parse_parser_el ?_
  unfold W_parse_parser_el
  generalize hT : cvP L (elP s) = T
  unfold elP at hT
  refine cqV h hT (nameP_ev h) (name_go s) fun nm s1 g1 hT => ?_
  refine takeN g1.g hT (fun g2 _ hT => ?_) (fun _ hT => hT)
  refine Call.mk (now_ev g2.g) ?_
  refine JoinP (L := L) (T := T) s.2 L.length (fun t s' => bnd (mustP (ByteArray.mk #[93]) s') fun s2 => .ok (t, s2)) ?_ fun t s' g _ _ hT => cqM g hT fun b _ hT => hT
  have hs : ∀ {b : PS}, Gd L b → b.2 = s.2 → b.2 = s.2 ∧ b.1.length ≤ L.length := fun g e => ⟨e, g.le⟩
  refine Br.e (fun e => ?_) fun e => ?_
  · have hT := ifT e hT
    exact cqV g2.g hT (int_ev g2.g) (int_go _) fun i s3 g3 hT => Call.mk (wholeT_ev i) ⟨s3, rfl, g3.g, by rw [g3.o, g2.o, g1.o], g3.g.le, hT⟩
  · have hT := ifF e hT
    refine cqV g2.g hT (nameP_ev g2.g) (name_go _) fun v s3 g3 hT => ?_
    refine JoinP (L := L) (T := T) s.2 L.length (fun i s' => bnd (mustP (ByteArray.mk #[93]) s') fun s2 => .ok (partT nm [i], s2)) ?_ fun i s' g o l hT => ⟨s', rfl, g, o, l, hT⟩
    refine takeB g3.g hT (fun g4 _ hT => ?_) fun _ hT => takeB g3.g hT (fun g4 _ hT => ?_) fun _ hT => ?_
    · exact cqV g4.g hT (int_ev g4.g) (int_go _) fun i s5 g5 hT => Call.mk (wholeT_ev i) ⟨s5, rfl, g5.g, by rw [g5.o, g4.o, g3.o, g2.o, g1.o], g5.g.le, hT⟩
    · exact cqV g4.g hT (int_ev g4.g) (int_go _) fun i s5 g5 hT => Call.mk (wholeT_ev i) ⟨s5, rfl, g5.g, by rw [g5.o, g4.o, g3.o, g2.o, g1.o], g5.g.le, hT⟩
    · exact ⟨s3, rfl, g3.g, by rw [g3.o, g2.o, g1.o], g3.g.le, hT⟩
theorem ref_ev (h : Gd L s) : Ev_parse_parser_ref (boxP L s) (cvP L (refP s)) := by
  refine walk_parse_parser_ref ?_
  unfold W_parse_parser_ref
  generalize hT : cvP L (refP s) = T
  unfold refP at hT
  refine cqV h hT (el_ev h) (el_go s) fun e s1 g1 hT => ?_
  have hL := g1.g.le
  have hM := g1.g.len
  refine LoopP (fun ks n => ks.length + n ≤ 2000000) (fun n ks a => bnd (elsP n ks a) fun q => .ok (tk 2 q.1, q.2)) g1.g (by simp only [List.length_singleton]; omega) (Nat.lt_succ_self _) hT ?_
  intro n ks a k g o hP l hT hk
  rw [elsP] at hT
  simp only [bnd_ite, bnd_bnd, bnd_pure] at hT
  refine takeB g hT (fun g2 _ hT => ?_) fun _ hT => hT
  refine cqV g2.g hT (el_ev g2.g) (el_go _) fun e s3 g3 hT => AppP (by simp only [List.length_singleton]; omega) ?_
  have l2 := g2.l
  have l3 := g3.l
  exact hk _ s3 g3.g (by rw [g3.o, g2.o, o]) (by omega) (by simp only [List.length_append, List.length_singleton]; omega) hT
theorem der_ev (h : Gd L s) : Ev_parse_parser_der (boxP L s) (cvP L (derP s)) := by
  refine walk_parse_parser_der ?_
  unfold W_parse_parser_der
  generalize hT : cvP L (derP s) = T
  unfold derP at hT
  refine cqM h hT fun s1 g1 hT => cqE g1.g hT fun s2 g2 o2 l2 hT => cqV g2 hT (ref_ev g2) (ref_go _) fun t s3 g3 hT => ?_
  have := g1.g.lo
  have := g3.o
  exact cqL g3.g (by omega) (by simp) hT fun b _ _ _ hT => hT
theorem row_ev {m : Nat} {part : PS → PR GTree} {one other : ByteArray} {k k2 : Int} (h : Gd L s) (hg : ∀ a, OkP (Vg 0 1 a) (part a))
    (hp : ∀ a, Gd L a → a.2 = s.2 → AFnB prog m 51 3 (Gparseparser.enc (boxP L a)) [] (oX (fun r : GTree × Gparseparser => GTree.out r.1) stV (cvP L (part a))) (bX (fun r : GTree × Gparseparser => Gparseparser.enc r.2) (Gparseparser.enc (boxP L a)) (cvP L (part a)))) :
    Ev_parse_parser_row (boxP L s) m one k other k2 (cvP L (rowsP part one k other k2 s)) := by
  refine walk_parse_parser_row ?_
  unfold W_parse_parser_row
  generalize hT : cvP L (rowsP part one k other k2 s) = T
  unfold rowsP at hT
  refine cqV h hT (hp s h rfl) (hg s) fun t s1 g1 hT => ?_
  refine LoopP (fun _ _ => True) (fun n t a => rowP part one k other k2 n t a) g1.g trivial (Nat.lt_succ_self _) hT ?_
  intro n t a kk g o _ l hT hk
  rw [rowP] at hT
  refine JoinP (L := L) (T := T) a.2 (a.1.length - 1) (fun k' a' => bnd (part a') fun r => rowP part one k other k2 n (tk k' [t, r.1]) r.2) ?_ fun k' a' g' o' l' hT => ?_
  · refine takeB g hT (fun g2 _ hT => ⟨_, rfl, g2.g, g2.o, by have := g2.l; omega, hT⟩) fun _ hT => takeB g hT (fun g2 _ hT => ⟨_, rfl, g2.g, g2.o, by have := g2.l; omega, hT⟩) fun _ hT => hT
  · refine cqV g' hT (hp a' g' (by rw [o', o, g1.o])) (hg a') fun r b gb hT => ?_
    have := gb.l
    exact hk _ b gb.g (by rw [gb.o, o', o]) (by omega) trivial hT
/-- A number, a name, a call, what stands in brackets. -/
def primeP (n : Nat) (st : PS) : PR GTree :=
  if (hdT st.1).Kind = 3 then bnd (numP decB st) fun r => .ok ({ GTree.zero with Kind := 1, Num := r.1 }, r.2)
  else if isP (ByteArray.mk #[116, 105, 109, 101]) st = true then .ok (tk 5 [], nextP st)
  else if isP (ByteArray.mk #[100, 101, 114]) st = true then derP st
  else if isP (ByteArray.mk #[40]) st = true then bnd (enterP (ByteArray.mk #[40]) st) fun s1 => bnd (exprP n s1) fun r => bnd (leaveP [(ByteArray.mk #[41])] r.2) fun s2 => .ok (r.1, s2)
  else if (hdT st.1).Kind = 2 then
    (if fnIx (hdT st.1).S < 0 then .error (failP st)
     else bnd (enterP (ByteArray.mk #[40]) (nextP st)) fun s1 => bnd (exprP n s1) fun r => bnd (leaveP [(ByteArray.mk #[41])] r.2) fun s2 => .ok ({ GTree.zero with Kind := 6, N := fnIx (hdT st.1).S, Kids := [r.1] }, s2))
  else refP st
theorem negP_eq (n : Nat) (st : PS) : negP (n + 1) st = if isP (ByteArray.mk #[45]) st = true then bnd (enterP (ByteArray.mk #[45]) st) fun s1 => bnd (negP n s1) fun r => .ok (tk 7 [r.1], (r.2.1, r.2.2 - 1))
    else bnd (primeP n st) fun r => if isP (ByteArray.mk #[94]) r.2 = true then bnd (powerP (nextP r.2)) fun q => .ok ({ GTree.zero with Kind := 12, N := q.1, Kids := [r.1] }, q.2) else .ok r := by
  rw [negP]; rfl
theorem prime_go (n : Nat) (a : PS) : OkP (Vg 0 1 a) (primeP n a) := by
  unfold primeP
  refine OkP.ite (fun _ => (num_go _ _).bnd fun _ h => .pure h) fun _ => OkP.ite (fun h => .pure (is_go h)) fun _ => OkP.ite (fun _ => der_go a) fun _ => OkP.ite (fun _ => ?_) fun _ => OkP.ite (fun hk => OkP.ite (fun _ => .err) fun _ => ?_) fun _ => ref_go a
  · exact (enter_go _ _).bnd fun _ h => (expr_go _ _).bnd fun _ h2 => (leave_go _ _).bnd fun _ h3 => .pure (((h.trans h2).trans h3 |>.cast (by omega)).le (by simp <;> omega))
  · exact (enter_go _ _).bnd fun _ h => (expr_go _ _).bnd fun _ h2 => (leave_go _ _).bnd fun _ h3 => .pure (((((next_go (by omega)).trans h).trans h2).trans h3 |>.cast (by omega)).le (by simp <;> omega))
theorem mul_of {n : Nat} (ih : ∀ s, Gd L s → 61 ≤ (n : Int) + s.2 → Ev_parse_parser_neg (boxP L s) (cvP L (negP n s))) (h : Gd L s) (hn : 61 ≤ (n : Int) + s.2) : Ev_parse_parser_mul (boxP L s) (cvP L (mulP n s)) := by
  refine walk_parse_parser_mul ?_
  unfold W_parse_parser_mul
  exact cqZ (x := mulP n s) rfl (row_ev h (neg_go n) fun a g e => ih a g (by omega))
theorem expr_of {n : Nat} (ih : ∀ s, Gd L s → 61 ≤ (n : Int) + s.2 → Ev_parse_parser_neg (boxP L s) (cvP L (negP n s))) (h : Gd L s) (hn : 61 ≤ (n : Int) + s.2) : Ev_parse_parser_expr (boxP L s) (cvP L (exprP n s)) := by
  refine walk_parse_parser_expr ?_
  unfold W_parse_parser_expr
  exact cqZ (x := exprP n s) rfl (row_ev h (mul_go n) fun a g e => mul_of ih g (by omega))
section
variable (hr : ∀ a : GRat, a.ok → Ev_rat_Right a a.right)
include hr
theorem prime_of {n : Nat} (ih : ∀ s, Gd L s → 61 ≤ (n : Int) + s.2 → Ev_parse_parser_neg (boxP L s) (cvP L (negP n s))) (h : Gd L s) (hn : 61 ≤ (n : Int) + 1 + s.2) : Ev_parse_parser_prime (boxP L s) (cvP L (primeP n s)) := by
  refine walk_parse_parser_prime ?_
  unfold W_parse_parser_prime
  generalize hT : cvP L (primeP n s) = T
  unfold primeP at hT
  have lo := h.lo
  refine kindB h hT (fun _ hT => cqV h hT (numP_ev h fun a ha => call_parse_decimal (parseDecimal_ev hr ha.ok ha.dn)) (num_go _ s) fun a b _ hT => hT) fun _ hT =>
    takeB h hT (fun _ _ hT => hT) fun _ hT => isB h hT (fun _ _ hT => cqZ hT (der_ev h)) fun _ hT => isB h hT (fun _ _ hT => ?_) fun _ hT => kindB h hT (fun e hT => ?_) fun _ hT => cqZ hT (ref_ev h)
  · refine cqE h hT fun s1 g1 o1 l1 hT => cqV g1 hT (expr_of ih g1 (by omega)) (expr_go n s1) fun t s2 g2 hT => ?_
    have := g2.o
    exact cqL g2.g (by omega) (by simp) hT fun b _ _ _ hT => hT
  · refine Call.mk functions_ev (Call.mk (now_ev h) (Call.mk (indexStr_evP (by simp)) ?_))
    by_cases hi : fnIx (hdT s.1).S < 0
    · exact ⟨fun _ => False, Br.dT hi (CallX.er (fail_ev h) (ifT hi hT)), fun _ h => h.elim⟩
    · have hT := ifF hi hT
      have g0 := h.next (by omega)
      have := g0.o
      refine ⟨fun p => p = boxP L s, Br.dF hi rfl, ?_⟩
      rintro _ rfl
      refine Let.as _ h.wr ?_
      show CallX (Ev_parse_parser_enter (boxP L (nextP s)) _) _ _
      refine cqE g0.g hT fun s1 g1 o1 l1 hT => cqV g1 hT (expr_of ih g1 (by omega)) (expr_go n s1) fun t s2 g2 hT => ?_
      have := g2.o
      exact cqL g2.g (by omega) (by simp) hT fun b _ _ _ hT => hT
theorem neg_ev : ∀ (n : Nat) (s : PS), Gd L s → 61 ≤ (n : Int) + s.2 → Ev_parse_parser_neg (boxP L s) (cvP L (negP n s))
  | 0, s, h, hn => by have := h.hi; omega
  | n + 1, s, h, hn => by
    have ih := neg_ev n
    refine walk_parse_parser_neg ?_
    unfold W_parse_parser_neg
    generalize hT : cvP L (negP (n + 1) s) = T
    rw [negP_eq] at hT
    refine isB h hT (fun _ _ hT => ?_) fun _ hT => ?_
    · refine cqE h hT fun s1 g1 o1 l1 hT => cqV g1 hT (ih s1 g1 (by omega)) (neg_go n s1) fun t s2 g2 hT => ?_
      have := g2.g.lo
      have := g2.g.hi
      exact Let.as (s2.2 - 1) (show IntKind.i64.wrap (s2.2 - 1) = _ from wi (by omega) (by omega)) hT
    · refine cqV h hT (prime_of hr ih h (by omega)) (prime_go n s) fun t s1 g1 hT => ?_
      refine takeB g1.g hT (fun g2 _ hT => ?_) fun _ hT => hT
      exact cqV g2.g hT (powerP_ev g2.g) (power_go _) fun a s3 _ hT => hT
theorem expr_ev (h : Gd L s) : Ev_parse_parser_expr (boxP L s) (cvP L (exprP 62 s)) := expr_of (neg_ev hr 62) h (by have := h.lo; omega)
end
theorem dim_of {mk : Int → Int → GRat} {n : Nat} (ih : ∀ s, Gd L s → 61 ≤ (n : Int) + s.2 → Ev_parse_parser_up (boxP L s) (cvP L (upP mk n s))) (h : Gd L s) (hn : 61 ≤ (n : Int) + s.2) : Ev_parse_parser_dim (boxP L s) (cvP L (dimP mk n s)) := by
  refine walk_parse_parser_dim ?_
  unfold W_parse_parser_dim
  exact cqZ (x := dimP mk n s) rfl (row_ev h (up_go mk n) fun a g e => ih a g (by omega))
section
variable {mk : Int → Int → GRat} (hm : ∀ a d : Int, -64 ≤ a → a ≤ 64 → 1 ≤ d → d ≤ 64 → ∃ e, Ev_rat_Make a d (mk a d, e))
include hm
theorem up_ev : ∀ (n : Nat) (s : PS), Gd L s → 61 ≤ (n : Int) + s.2 → Ev_parse_parser_up (boxP L s) (cvP L (upP mk n s))
  | 0, s, h, hn => by have := h.hi; omega
  | n + 1, s, h, hn => by
    have ih := up_ev n
    have lo := h.lo
    refine walk_parse_parser_up ?_
    unfold W_parse_parser_up
    generalize hT : cvP L (upP mk (n + 1) s) = T
    rw [upP] at hT
    simp only [bnd_ite, bnd_bnd, bnd_pure] at hT
    refine JoinP (L := L) (T := T) s.2 L.length (fun t s' => if isP (ByteArray.mk #[94]) s' = true then
        (if isP (ByteArray.mk #[40]) (nextP s') = true then bnd (enterP (ByteArray.mk #[40]) (nextP s')) fun s2 => bnd (powerP s2) fun a => bnd (mustP (ByteArray.mk #[47]) a.2) fun s3 => bnd (numP denB s3) fun d => bnd (leaveP [(ByteArray.mk #[41])] d.2) fun s4 => .ok ({ GTree.zero with Kind := 24, Num := mk a.1 d.1.N, Kids := [t] }, s4)
         else bnd (powerP (nextP s')) fun a => .ok ({ GTree.zero with Kind := 24, Num := ⟨a.1, 1⟩, Kids := [t] }, a.2))
      else .ok (t, s')) ?_ fun t s' g o l hT => ?_
    · refine isB h hT (fun _ _ hT => ?_) fun _ hT => kindB h hT (fun _ hT => ?_) fun _ hT => ?_
      · refine cqE h hT fun s1 g1 o1 l1 hT => cqV g1 hT (dim_of ih g1 (by omega)) (dim_go mk n s1) fun t s2 g2 hT => ?_
        have := g2.o
        exact cqL g2.g (by omega) (by simp) hT fun b gb ob _ hT => ⟨b, rfl, gb, by omega, gb.le, hT⟩
      · exact cqV h hT (numP_ev h fun a _ => call_parse_parser_up_1 (up1_ev a)) (num_go _ s) fun a b g hT => ⟨b, rfl, g.g, g.o, g.g.le, hT⟩
      · exact cqV h hT (nameP_ev h) (name_go s) fun a b g hT => ⟨b, rfl, g.g, g.o, g.g.le, hT⟩
    · refine takeN g hT (fun g1 _ hT => ?_) fun _ hT => hT
      refine isNP g1.g hT (fun _ _ hT => ?_) fun _ hT => cqV g1.g hT (powerP_ev g1.g) (power_go _) fun a b _ hT => hT
      refine cqE g1.g hT fun s2 g2 o2 l2 hT => cqX hT (powerP_ev g2) fun a ha hT => ?_
      have gp := g2.gn (power_go _ a ha)
      have lp := power_le g2 a ha
      refine cqM gp.g hT fun s3 g3 hT => cqX hT (numP_ev g3.g fun a _ => call_parse_parser_up_2 (up2_ev a)) fun d hd hT => ?_
      have gd := g3.g.gn (num_go _ _ d hd)
      obtain ⟨_, hden⟩ := num_hd (a := d.1) (b := d.2) g3.g hd
      have o3 := g3.o
      have od := gd.o
      have op := gp.o
      have o1 := g1.o
      refine cqL gd.g (by omega) (by simp) hT fun b gb _ _ hT => ?_
      unfold denB at hden
      simp only [Bool.and_eq_true, decide_eq_true_iff] at hden
      obtain ⟨e, he⟩ := hm a.1 d.1.N lp.1 lp.2 (by omega) hden.2
      exact Call.mk he hT
theorem dim_ev (h : Gd L s) : Ev_parse_parser_dim (boxP L s) (cvP L (dimP mk 62 s)) := dim_of (up_ev hm 62) h (by have := h.lo; omega)
theorem kindP_ev (h : Gd L s) : Ev_parse_parser_kind (boxP L s) (cvP L (kindP mk s)) := by
  refine walk_parse_parser_kind ?_
  unfold W_parse_parser_kind
  generalize hT : cvP L (kindP mk s) = T
  unfold kindP at hT
  exact takeB h hT (fun g1 _ hT => cqV g1.g hT (dim_ev hm g1.g) (dim_go mk 62 _) fun a b _ hT => hT) fun _ hT => hT
end
theorem arrayP_ev (h : Gd L s) : Ev_parse_parser_array (boxP L s) (cvP L (arrayP s)) := by
  refine walk_parse_parser_array ?_
  unfold W_parse_parser_array
  generalize hT : cvP L (arrayP s) = T
  unfold arrayP at hT
  exact takeN h hT (fun g1 _ hT => cqV g1.g hT (int_ev g1.g) (int_go _) fun a b g2 hT => cqM g2.g hT fun c _ hT => hT) fun _ hT => hT
end Go.Sim.YtnnfiohdkobkdaaGreatDoor
