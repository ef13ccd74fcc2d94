/- What is proved: what is read goes on through the tokens, never past the last one, and closes what it opens. -/
import Derived.Test.YtnnfiohdkobkdaaGreatDoorZZPLParP

namespace Go.Sim.YtnnfiohdkobkdaaGreatDoor
open Go.RowKit Go.Proofs Go.Proofs.Tryz
/-- The last token is the end. -/
def EndT (ts : List GToken) : Prop := ∃ pre e, ts = pre ++ [e] ∧ e.Kind = 0
/-- From one state to another: on by at least so many tokens, so much more open. -/
def Onw (k : Int) (d : Nat) (a b : PS) : Prop := EndT a.1 → EndT b.1 ∧ (∃ pre, a.1 = pre ++ b.1) ∧ b.2 = a.2 + k ∧ b.1.length + d ≤ a.1.length
theorem Onw.refl (a : PS) : Onw 0 0 a a := fun h => ⟨h, ⟨[], rfl⟩, by omega, by omega⟩
theorem Onw.trans {k m : Int} {d e : Nat} {a b c : PS} (h : Onw k d a b) (g : Onw m e b c) : Onw (k + m) (d + e) a c := fun ha => by
  obtain ⟨h1, ⟨p, h2⟩, h3, h4⟩ := h ha
  obtain ⟨g1, ⟨q, g2⟩, g3, g4⟩ := g h1
  exact ⟨g1, ⟨p ++ q, by rw [h2, g2, List.append_assoc]⟩, by omega, by omega⟩
theorem Onw.le {k : Int} {d e : Nat} {a b : PS} (h : Onw k d a b) (he : e ≤ d) : Onw k e a b := fun ha => by
  obtain ⟨h1, h2, h3, h4⟩ := h ha
  exact ⟨h1, h2, h3, by omega⟩
theorem Onw.cast {k m : Int} {d : Nat} {a b : PS} (h : Onw k d a b) (e : k = m) : Onw m d a b := e ▸ h
theorem Onw.opn {k : Int} {d : Nat} {a b : PS} (h : Onw k d a b) (m : Int) : Onw (k + m) d a (b.1, b.2 + m) := fun ha => by
  obtain ⟨h1, h2, h3, h4⟩ := h ha
  exact ⟨h1, h2, by show b.2 + m = _; omega, h4⟩
theorem next_go {a : PS} (h : (hdT a.1).Kind ≠ 0) : Onw 0 1 a (nextP a) := by
  rintro ⟨pre, e, h1, h2⟩
  obtain ⟨ts, op⟩ := a
  simp only at h1 h
  subst h1
  cases pre with
  | nil => exact absurd h2 h
  | cons t pre => exact ⟨⟨pre, e, rfl, h2⟩, ⟨[t], rfl⟩, by show op = op + 0; omega, by simp [nextP]⟩
theorem is_kind {a : PS} {w : ByteArray} (h : isP w a = true) : (hdT a.1).Kind ≠ 0 := by
  unfold isP isT at h
  simp only [Bool.and_eq_true, Bool.or_eq_true, beq_iff_eq] at h
  omega
theorem is_go {a : PS} {w : ByteArray} (h : isP w a = true) : Onw 0 1 a (nextP a) := next_go (is_kind h)
/-- All that it may yield is so. -/
def OkP {α : Type} (S : α → Prop) (x : Except PE α) : Prop := ∀ a, x = .ok a → S a
theorem OkP.bnd {α β : Type} {S : α → Prop} {T : β → Prop} {x : Except PE α} {f : α → Except PE β} (h : OkP S x) (k : ∀ a, S a → OkP T (f a)) : OkP T (Sim.YtnnfiohdkobkdaaGreatDoor.bnd x f) := by
  intro b hb
  obtain ⟨a, h1, h2⟩ := bnd_ok.1 hb
  exact k a (h a h1) b h2
theorem OkP.pure {α : Type} {S : α → Prop} {a : α} (h : S a) : OkP S (.ok a) := fun _ e => by cases e; exact h
theorem OkP.err {α : Type} {S : α → Prop} {e : PE} : OkP S (.error e) := fun _ h => by cases h
theorem OkP.ite {α : Type} {S : α → Prop} {c : Prop} [Decidable c] {x y : Except PE α} (h1 : c → OkP S x) (h2 : ¬ c → OkP S y) : OkP S (if c then x else y) := by
  split
  · exact h1 (by assumption)
  · exact h2 (by assumption)
abbrev Vg {α : Type} (k : Int) (d : Nat) (a : PS) : α × PS → Prop := fun r => Onw k d a r.2
theorem must_go (w : ByteArray) (a : PS) : OkP (Onw 0 1 a) (mustP w a) := OkP.ite (fun h => .pure (is_go h)) fun _ => .err
theorem musts_go : ∀ (l : List ByteArray) (a : PS), OkP (Onw 0 l.length a) (mustsP l a)
  | [], a => .pure (Onw.refl a)
  | w :: l, a => (must_go w a).bnd fun b h => fun c hc => ((h.trans (musts_go l b c hc)).cast (by omega)).le (by simp <;> omega)
theorem enter_go (w : ByteArray) (a : PS) : OkP (Onw 1 1 a) (enterP w a) := OkP.ite (fun _ => .err) fun _ => (must_go w a).bnd fun _ h => .pure ((h.opn 1).cast (by omega))
theorem leave_go (l : List ByteArray) (a : PS) : OkP (Onw (-1) l.length a) (leaveP l a) := (musts_go l a).bnd fun _ h => .pure ((h.opn (-1)).cast (by omega))
theorem name_go (a : PS) : OkP (Vg 0 1 a) (nameP a) := OkP.ite (fun h => .pure (next_go (by omega))) fun _ => .err
theorem num_go (so : GRat → Bool) (a : PS) : OkP (Vg 0 1 a) (numP so a) := OkP.ite (fun h => OkP.ite (fun _ => .pure (next_go (by omega))) fun _ => .err) fun _ => .err
theorem int_go (a : PS) : OkP (Vg 0 1 a) (intP a) := (num_go _ a).bnd fun _ h => .pure h
theorem power_go (a : PS) : OkP (Vg 0 1 a) (powerP a) := OkP.ite (fun h => (num_go _ _).bnd fun _ g => .pure (((is_go h).trans g).le (by omega))) fun _ => (num_go _ a).bnd fun _ h => .pure h
theorem el_go (a : PS) : OkP (Vg 0 1 a) (elP a) := (name_go a).bnd fun r h1 => OkP.ite (fun hb =>
    have h2 := h1.trans (is_go hb)
    OkP.ite (fun _ => (int_go _).bnd fun _ h3 => (must_go _ _).bnd fun _ h4 => .pure (((h2.trans h3).trans h4).le (by omega)))
      fun _ => (name_go _).bnd fun v h3 => OkP.ite (fun hp => (int_go _).bnd fun _ h5 => (must_go _ _).bnd fun _ h6 => .pure ((((h2.trans h3).trans (is_go hp)).trans h5 |>.trans h6).le (by omega)))
        fun _ => OkP.ite (fun hp => (int_go _).bnd fun _ h5 => (must_go _ _).bnd fun _ h6 => .pure ((((h2.trans h3).trans (is_go hp)).trans h5 |>.trans h6).le (by omega)))
          fun _ => (must_go _ _).bnd fun _ h6 => .pure (((h2.trans h3).trans h6).le (by omega)))
  fun _ => .pure h1
theorem els_go : ∀ (n : Nat) (ks : List GTree) (a : PS), OkP (Vg 0 0 a) (elsP n ks a)
  | 0, _, _ => .err
  | n + 1, ks, a => OkP.ite (fun h => (el_go _).bnd fun r h2 => fun c hc => (((is_go h).trans h2).trans (els_go n _ _ c hc)).le (by omega)) fun _ => .pure (Onw.refl a)
theorem ref_go (a : PS) : OkP (Vg 0 1 a) (refP a) := (el_go a).bnd fun _ h => (els_go _ _ _).bnd fun _ h2 => .pure ((h.trans h2).le (by omega))
theorem der_go (a : PS) : OkP (Vg 0 1 a) (derP a) := (must_go _ a).bnd fun _ h => (enter_go _ _).bnd fun _ h2 => (ref_go _).bnd fun _ h3 => (leave_go _ _).bnd fun _ h4 => .pure ((((h.trans h2).trans h3).trans h4 |>.cast (by omega)).le (by simp <;> omega))
theorem row_go {part : PS → PR GTree} (hp : ∀ a, OkP (Vg 0 1 a) (part a)) (one : ByteArray) (k : Int) (other : ByteArray) (k2 : Int) : ∀ (n : Nat) (x : GTree) (a : PS), OkP (Vg 0 0 a) (rowP part one k other k2 n x a)
  | 0, _, _ => .err
  | n + 1, x, a => OkP.ite (fun h => (hp _).bnd fun r h2 => fun c hc => (((is_go h).trans h2).trans (row_go hp one k other k2 n _ _ c hc)).le (by omega))
      fun _ => OkP.ite (fun h => (hp _).bnd fun r h2 => fun c hc => (((is_go h).trans h2).trans (row_go hp one k other k2 n _ _ c hc)).le (by omega)) fun _ => .pure (Onw.refl a)
theorem rows_go {part : PS → PR GTree} (hp : ∀ a, OkP (Vg 0 1 a) (part a)) (one : ByteArray) (k : Int) (other : ByteArray) (k2 : Int) (a : PS) : OkP (Vg 0 1 a) (rowsP part one k other k2 a) :=
  (hp a).bnd fun _ h => fun c hc => (h.trans (row_go hp one k other k2 _ _ _ c hc)).le (by omega)
theorem neg_go : ∀ (n : Nat) (a : PS), OkP (Vg 0 1 a) (negP n a)
  | 0, _ => .err
  | n + 1, a => by
    have ih := neg_go n
    have he : ∀ a, OkP (Vg 0 1 a) (rowsP (rowsP (negP n) (ByteArray.mk #[42]) 10 (ByteArray.mk #[47]) 11) (ByteArray.mk #[43]) 8 (ByteArray.mk #[45]) 9 a) := rows_go (rows_go ih _ _ _ _) _ _ _ _
    unfold negP
    refine OkP.ite (fun _ => (enter_go _ _).bnd fun _ h => (ih _).bnd fun _ h2 => .pure ((((h.trans h2).opn (-1)).cast (by omega)).le (by omega))) fun _ => ?_
    refine OkP.bnd (S := Vg 0 1 a) ?_ fun r h => OkP.ite (fun hb => (power_go _).bnd fun _ h2 => .pure (((h.trans (is_go hb)).trans h2).le (by omega))) fun _ => .pure h
    refine OkP.ite (fun _ => (num_go _ _).bnd fun _ h => .pure h) fun _ => OkP.ite (fun h => .pure (is_go h)) fun _ => OkP.ite (fun _ => der_go a) fun _ => OkP.ite (fun _ => ?_) fun _ => OkP.ite (fun hk => OkP.ite (fun _ => .err) fun _ => ?_) fun _ => ref_go a
    · exact (enter_go _ _).bnd fun _ h => (he _).bnd fun _ h2 => (leave_go _ _).bnd fun _ h3 => .pure (((h.trans h2).trans h3 |>.cast (by omega)).le (by simp <;> omega))
    · exact (enter_go _ _).bnd fun _ h => (he _).bnd fun _ h2 => (leave_go _ _).bnd fun _ h3 => .pure (((((next_go (by omega)).trans h).trans h2).trans h3 |>.cast (by omega)).le (by simp <;> omega))
theorem mul_go (n : Nat) (a : PS) : OkP (Vg 0 1 a) (mulP n a) := rows_go (neg_go n) _ _ _ _ a
theorem expr_go (n : Nat) (a : PS) : OkP (Vg 0 1 a) (exprP n a) := rows_go (rows_go (neg_go n) _ _ _ _) _ _ _ _ a
variable (mk : Int → Int → GRat)
theorem up_go : ∀ (n : Nat) (a : PS), OkP (Vg 0 1 a) (upP mk n a)
  | 0, _ => .err
  | n + 1, a => by
    have ih := up_go n
    unfold upP
    refine OkP.bnd (S := Vg 0 1 a) ?_ fun r h => ?_
    · exact OkP.ite (fun _ => (enter_go _ _).bnd fun _ h => (rows_go ih _ _ _ _ _).bnd fun _ h2 => (leave_go _ _).bnd fun _ h3 => .pure (((h.trans h2).trans h3 |>.cast (by omega)).le (by simp <;> omega)))
        fun _ => OkP.ite (fun _ => (num_go _ _).bnd fun _ h => .pure h) fun _ => (name_go _).bnd fun _ h => .pure h
    · refine OkP.ite (fun hb => OkP.ite (fun _ => ?_) fun _ => (power_go _).bnd fun _ h2 => .pure (((h.trans (is_go hb)).trans h2).le (by omega))) fun _ => .pure h
      exact (enter_go _ _).bnd fun _ h1 => (power_go _).bnd fun _ h2 => (must_go _ _).bnd fun _ h3 => (num_go _ _).bnd fun _ h4 => (leave_go _ _).bnd fun _ h5 => .pure (((((((h.trans (is_go hb)).trans h1).trans h2).trans h3).trans h4).trans h5 |>.cast (by omega)).le (by simp <;> omega))
theorem dim_go (n : Nat) (a : PS) : OkP (Vg 0 1 a) (dimP mk n a) := rows_go (up_go mk n) _ _ _ _ a
theorem kind_go (a : PS) : OkP (Vg 0 0 a) (kindP mk a) := OkP.ite (fun h => (dim_go mk _ _).bnd fun _ h2 => .pure (((is_go h).trans h2).le (by omega))) fun _ => .pure (Onw.refl a)
theorem array_go (a : PS) : OkP (Vg 0 0 a) (arrayP a) := OkP.ite (fun h => (int_go _).bnd fun _ h2 => (must_go _ _).bnd fun _ h3 => .pure ((((is_go h).trans h2).trans h3).le (by omega))) fun _ => .pure (Onw.refl a)
theorem mods_go : ∀ (n : Nat) (ks : List GTree) (a : PS), OkP (Vg 0 1 a) (modsP n ks a)
  | 0, _, _ => .err
  | n + 1, ks, a => (name_go a).bnd fun _ h1 => (must_go _ _).bnd fun _ h2 => (expr_go _ _).bnd fun _ h3 => OkP.ite (fun hb => fun c hc => ((((h1.trans h2).trans h3).trans (is_go hb)).trans (mods_go n _ _ c hc)).le (by omega)) fun _ => .pure (((h1.trans h2).trans h3).le (by omega))
theorem part_go (a : PS) : OkP (Vg 0 1 a) (partP a) := (name_go a).bnd fun _ h1 => (array_go _).bnd fun _ h2 => (must_go _ _).bnd fun _ h3 => (name_go _).bnd fun _ h4 =>
  OkP.ite (fun _ => (enter_go _ _).bnd fun _ h5 => (mods_go _ _ _).bnd fun _ h6 => (leave_go _ _).bnd fun _ h7 => .pure (((((((h1.trans h2).trans h3).trans h4).trans h5).trans h6).trans h7 |>.cast (by omega)).le (by simp <;> omega))) fun _ => .pure ((((h1.trans h2).trans h3).trans h4).le (by omega))
theorem start_go (a : PS) : OkP (Vg 0 1 a) (startP a) := OkP.bnd (S := Vg 0 1 a) (OkP.ite (fun _ => der_go a) fun _ => ref_go a) fun _ h => OkP.ite (fun hb => (expr_go _ _).bnd fun _ h2 => .pure (((h.trans (is_go hb)).trans h2).le (by omega)))
  fun _ => (musts_go _ _).bnd fun _ h1 => (expr_go _ _).bnd fun _ h2 => (must_go _ _).bnd fun _ h3 => (expr_go _ _).bnd fun _ h4 => (must_go _ _).bnd fun _ h5 => .pure ((((((h.trans h1).trans h2).trans h3).trans h4).trans h5 |>.cast (by omega)).le (by simp <;> omega))
theorem rules_go {rule : PS → PR GTree} (hp : ∀ a, OkP (Vg 0 1 a) (rule a)) : ∀ (n : Nat) (ks : List GTree) (a : PS), OkP (Vg 0 0 a) (rulesP rule n ks a)
  | 0, _, _ => .err
  | n + 1, ks, a => OkP.ite (fun _ => .pure (Onw.refl a)) fun _ => (hp a).bnd fun _ h => fun c hc => (h.trans (rules_go hp n _ _ c hc)).le (by omega)
theorem rule_go : ∀ (n : Nat) (a : PS), OkP (Vg 0 1 a) (ruleP n a)
  | 0, _ => .err
  | n + 1, a => by
    unfold ruleP
    refine OkP.ite (fun hb => ?_) fun _ => OkP.ite (fun _ => ?_) fun _ => ?_
    · exact (enter_go _ _).bnd fun _ h1 => (ref_go _).bnd fun _ h2 => (must_go _ _).bnd fun _ h3 => (ref_go _).bnd fun _ h4 => (leave_go _ _).bnd fun _ h5 => .pure ((((((is_go hb).trans h1).trans h2).trans h3).trans h4 |>.trans h5 |>.cast (by omega)).le (by simp <;> omega))
    · exact (enter_go _ _).bnd fun _ h1 => (name_go _).bnd fun _ h2 => (must_go _ _).bnd fun _ h3 => (int_go _).bnd fun _ h4 => (must_go _ _).bnd fun _ h5 => (int_go _).bnd fun _ h6 => (must_go _ _).bnd fun _ h7 => (rules_go (rule_go n) _ _ _).bnd fun _ h8 => (leave_go _ _).bnd fun _ h9 =>
        .pure (((((((((h1.trans h2).trans h3).trans h4).trans h5).trans h6).trans h7).trans h8).trans h9 |>.cast (by omega)).le (by simp <;> omega))
    · exact (expr_go _ _).bnd fun _ h1 => (must_go _ _).bnd fun _ h2 => (expr_go _ _).bnd fun _ h3 => (must_go _ _).bnd fun _ h4 => .pure ((((h1.trans h2).trans h3).trans h4).le (by omega))
theorem item_go (a : PS) : OkP (Vg 0 1 a) (itemP mk a) := by
  unfold itemP
  refine OkP.ite (fun hb => ?_) fun _ => OkP.ite (fun hb => ?_) fun _ => OkP.ite (fun hb => ?_) fun _ => OkP.ite (fun hb => ?_) fun _ => rule_go _ a
  · exact (name_go _).bnd fun _ h1 => (kind_go mk _).bnd fun _ h2 => (must_go _ _).bnd fun _ h3 => (expr_go _ _).bnd fun _ h4 => (must_go _ _).bnd fun _ h5 => .pure ((((((is_go hb).trans h1).trans h2).trans h3).trans h4 |>.trans h5).le (by omega))
  · have hg : Onw 0 1 a (nextP a) := hb.elim is_go is_go
    exact (name_go _).bnd fun _ h1 => (array_go _).bnd fun _ h2 => (kind_go mk _).bnd fun _ h3 => (must_go _ _).bnd fun _ h4 => .pure (((((hg.trans h1).trans h2).trans h3).trans h4).le (by omega))
  · exact (part_go _).bnd fun _ h1 => (must_go _ _).bnd fun _ h2 => .pure ((((is_go hb).trans h1).trans h2).le (by omega))
  · exact (start_go _).bnd fun _ h1 => (must_go _ _).bnd fun _ h2 => .pure ((((is_go hb).trans h1).trans h2).le (by omega))
theorem items_go : ∀ (n : Nat) (ks : List GTree) (a : PS), OkP (Vg 0 1 a) (itemsP mk n ks a)
  | 0, _, _ => .err
  | n + 1, ks, a => OkP.ite (fun h => .pure (is_go h)) fun _ => (item_go mk a).bnd fun _ h => fun c hc => (h.trans (items_go n _ _ c hc)).le (by omega)
theorem class_go (k : Int) (a : PS) : OkP (Vg 0 1 a) (classP mk k a) := (name_go a).bnd fun _ h1 => (items_go mk _ _ _).bnd fun _ h2 => (must_go _ _).bnd fun _ h3 => .pure (((h1.trans h2).trans h3).le (by omega))
theorem unit_go (a : PS) : OkP (Vg 0 1 a) (unitP mk a) := (name_go a).bnd fun _ h1 => OkP.ite (fun hb => (dim_go mk _ _).bnd fun _ h2 => (must_go _ _).bnd fun _ h3 => .pure ((((h1.trans (is_go hb)).trans h2).trans h3).le (by omega))) fun _ => (must_go _ _).bnd fun _ h2 => .pure ((h1.trans h2).le (by omega))
end Go.Sim.YtnnfiohdkobkdaaGreatDoor
