/- What is proved: of the tokens of a text: their places, the text from a token's place on, and where no blanks stand. -/
import Derived.Test.YtnnfiohdkobkdaaGreatDoorZZPLLexC

namespace Go.Sim.YtnnfiohdkobkdaaGreatDoor
open Go.RowKit Go.Proofs Go.Proofs.Tryz
theorem span_drop (f : Int → Bool) : ∀ l : List UInt8, span f (l.drop (span f l)) = 0
  | [] => rfl
  | b :: l => by
    by_cases h : f (b.toNat : Int) = true
    · rw [show span f (b :: l) = span f l + 1 by rw [span, if_pos h]]
      exact span_drop f l
    · rw [show span f (b :: l) = 0 by rw [span, if_neg h], List.drop_zero, span, if_neg h]
def comment (l : List UInt8) : Prop := peek l 0 = 47 ∧ peek l 1 = 47
theorem cm_done {l : List UInt8} (h0 : span blankB l = 0) : span blankB (l.drop (cm l)) = 0 ∧ ¬ comment (l.drop (cm l)) := by
  induction hn : l.length using Nat.strongRecOn generalizing l with
  | _ n ih =>
    rw [cm]
    split
    · rename_i h
      have h1 := cm_dec h.1
      have h2 := span_le lineB l
      have := ih _ (by simp only [List.length_drop]; omega) (l := (l.drop (span lineB l)).drop (span blankB (l.drop (span lineB l)))) (span_drop _ _) rfl
      rw [List.drop_drop, List.drop_drop] at this
      rw [List.drop_drop] at this ⊢
      exact this
    · rename_i h
      rw [List.drop_zero]; exact ⟨h0, h⟩
theorem skip_zero {l : List UInt8} (h0 : span blankB l = 0) (h1 : ¬ comment l) : skip l = 0 := by
  unfold skip
  rw [h0, List.drop_zero, cm, dif_neg (show ¬ (peek l 0 = 47 ∧ peek l 1 = 47) from h1)]
theorem skip_skip (l : List UInt8) : skip (l.drop (skip l)) = 0 := by
  have := cm_done (span_drop blankB l)
  rw [List.drop_drop] at this
  exact skip_zero this.1 this.2
variable {L : LexL}
theorem tok_at {l : List UInt8} {p : Nat} (h : (tok L l p).1.2 = 0) : (tok L l p).1.1.At = p := by
  unfold tok at h ⊢
  split
  · rename_i h1
    rw [if_pos h1] at h
    split
    · rename_i h2; rw [if_pos h2] at h; simp at h
    · rfl
  · rename_i h1
    rw [if_neg h1] at h
    split
    · rfl
    · rename_i h2
      rw [if_neg h2] at h
      split
      · rename_i h3; rw [if_pos h3] at h; simp at h
      · split <;> rfl
/-- The same tokens, but for their places. -/
def Alike (a b : List GToken) : Prop := a.length = b.length ∧ ∀ (i : Nat) (x y : GToken), a[i]? = some x → b[i]? = some y → x.Kind = y.Kind ∧ x.S = y.S ∧ x.Num = y.Num
theorem Alike.cons {x y : GToken} {a b : List GToken} (h : x.Kind = y.Kind ∧ x.S = y.S ∧ x.Num = y.Num) (k : Alike a b) : Alike (x :: a) (y :: b) := by
  refine ⟨by simp [k.1], fun i u v hu hv => ?_⟩
  cases i with
  | zero => simp at hu hv; subst hu hv; exact h
  | succ i => exact k.2 i u v (by simpa using hu) (by simpa using hv)
/-- What a well-formed result looks like. -/
theorem lexL_cases {l : List UInt8} {p n : Nat} (h : (lexL L l p n).2.1 = 0) :
    (l = [] ∧ lexL L l p n = ([{ GToken.zero with At := p }], 0, 0)) ∨
    (l ≠ [] ∧ ¬ 4000 ≤ n ∧ (tok L l p).1.2 = 0 ∧ (lexL L (l.drop (more L l p)) (p + more L l p) (n + 1)).2.1 = 0 ∧ lexL L l p n = ((tok L l p).1.1 :: (lexL L (l.drop (more L l p)) (p + more L l p) (n + 1)).1, 0, 0)) := by
  by_cases h0 : l = []
  · exact .inl ⟨h0, lexL_nil h0⟩
  by_cases hn : 4000 ≤ n
  · rw [lexL_many h0 hn] at h; simp at h
  by_cases hb : (tok L l p).1.2 = 0
  · have hm := lexL_more h0 hn hb
    by_cases hz : (lexL L (l.drop (more L l p)) (p + more L l p) (n + 1)).2.1 = 0
    · rw [if_pos hz] at hm
      exact .inr ⟨h0, hn, hb, hz, hm⟩
    · rw [if_neg hz] at hm
      rw [hm] at h
      exact absurd h hz
  · rw [lexL_bad h0 hn hb] at h; exact absurd h hb
theorem more_pos {l : List UInt8} {p : Nat} (h0 : l ≠ []) (hb : (tok L l p).1.2 = 0) : 1 ≤ more L l p ∧ more L l p ≤ l.length ∧ skip (l.drop (more L l p)) = 0 := by
  have h1 := tok_len (L := L) (p := p) h0
  have h2 := h1.2 hb
  have h3 := skip_le (l.drop (tok L l p).2)
  rw [List.length_drop] at h3
  have h4 := skip_skip (l.drop (tok L l p).2)
  rw [List.drop_drop] at h4
  unfold more
  exact ⟨by omega, by omega, h4⟩
theorem lexL_head {l : List UInt8} {p n : Nat} (h : (lexL L l p n).2.1 = 0) : ∃ t ts, (lexL L l p n).1 = t :: ts ∧ t.At = p := by
  rcases lexL_cases h with ⟨h0, e⟩ | ⟨h0, h1, h2, h3, e⟩
  · rw [e]; exact ⟨_, [], rfl, rfl⟩
  · rw [e]; exact ⟨_, _, rfl, tok_at h2⟩
/-- Where a token stands, and what is left of the text there. -/
theorem lexL_at {l : List UInt8} {p n : Nat} (h : (lexL L l p n).2.1 = 0) (h0 : skip l = 0) : ∀ (i : Nat) (t : GToken), (lexL L l p n).1[i]? = some t →
    ∃ d, t.At = ((p + d : Nat) : Int) ∧ d ≤ l.length ∧ (lexL L (l.drop d) (p + d) (n + i)).2.1 = 0 ∧ (lexL L (l.drop d) (p + d) (n + i)).1 = (lexL L l p n).1.drop i ∧ skip (l.drop d) = 0 := by
  induction hl : l.length using Nat.strongRecOn generalizing l p n with
  | _ k ih =>
    intro i t ht
    cases i with
    | zero =>
      obtain ⟨t0, ts, e1, e2⟩ := lexL_head h
      rw [e1] at ht
      simp at ht
      subst ht
      exact ⟨0, e2, Nat.zero_le _, h, rfl, h0⟩
    | succ i =>
      rcases lexL_cases h with ⟨g0, e⟩ | ⟨g0, g1, g2, g3, e⟩
      · rw [e] at ht; simp at ht
      · have hm := more_pos (L := L) g0 g2
        rw [e] at ht ⊢
        obtain ⟨d, d1, d2, d3, d4, d5⟩ := ih _ (by rw [List.length_drop]; omega) (l := l.drop (more L l p)) g3 hm.2.2 rfl i t (by simpa using ht)
        rw [List.length_drop] at d2
        rw [List.drop_drop] at d3 d4 d5
        rw [Nat.add_assoc p, show n + 1 + i = n + (i + 1) by omega] at d3 d4
        exact ⟨more L l p + d, by rw [d1]; omega, by omega, d3, by rw [d4]; rfl, d5⟩
/-- Two tokens in a row. -/
theorem lexL_next {l : List UInt8} {p n : Nat} (h : (lexL L l p n).2.1 = 0) {t u : GToken} {ts : List GToken} (e : (lexL L l p n).1 = t :: u :: ts) : t.At < u.At := by
  rcases lexL_cases h with ⟨g0, e1⟩ | ⟨g0, g1, g2, g3, e1⟩
  · rw [e1] at e; simp at e
  · rw [e1] at e
    simp only [List.cons.injEq] at e
    obtain ⟨rfl, e⟩ := e
    obtain ⟨t0, ts0, e2, e3⟩ := lexL_head g3
    rw [e2] at e
    simp only [List.cons.injEq] at e
    obtain ⟨rfl, _⟩ := e
    have hm := more_pos (L := L) g0 g2
    rw [tok_at g2, e3]; omega
end Go.Sim.YtnnfiohdkobkdaaGreatDoor

/- What is proved: gaps between tokens, one behind the other; a token stays as it is if what follows it is cut, and a blank put there. -/
namespace Go.Sim.YtnnfiohdkobkdaaGreatDoor
open Go.RowKit Go.Proofs Go.Proofs.Tryz
/-! ### Gaps -/
theorem span_app_lt {f : Int → Bool} : ∀ {g x : List UInt8}, span f (g ++ x) < g.length → ∀ y, span f (g ++ y) = span f (g ++ x)
  | [], x, h, _ => by simp at h
  | b :: g, x, h, y => by
    simp only [List.cons_append] at h ⊢
    by_cases hb : f (b.toNat : Int) = true
    · rw [span, if_pos hb] at h
      rw [span, if_pos hb, span, if_pos hb, span_app_lt (by simpa using h) y]
    · rw [span, if_neg hb, span, if_neg hb]
theorem span_app_ge {f : Int → Bool} : ∀ {g x : List UInt8}, g.length ≤ span f (g ++ x) → ∀ y, span f (g ++ y) = g.length + span f y
  | [], x, _, y => by simp
  | b :: g, x, h, y => by
    simp only [List.cons_append] at h ⊢
    by_cases hb : f (b.toNat : Int) = true
    · rw [span, if_pos hb] at h
      rw [span, if_pos hb, span_app_ge (g := g) (x := x) (by simp at h; omega) y]
      simp; omega
    · rw [span, if_neg hb] at h
      simp at h
theorem blank_skip {b : UInt8} (h : blankB (b.toNat : Int) = true) (x : List UInt8) : skip (b :: x) = 1 + skip x := by
  unfold skip
  rw [show span blankB (b :: x) = span blankB x + 1 by rw [span, if_pos h]]
  rw [List.drop_succ_cons]; omega
theorem comment_blank {l : List UInt8} (h : comment l) : span blankB l = 0 := by
  cases l with
  | nil => rfl
  | cons b l =>
    have : (b.toNat : Int) = 47 := h.1
    rw [span, if_neg (by rw [this]; decide)]
theorem comment_skip {l : List UInt8} (h : comment l) : skip l = span lineB l + skip (l.drop (span lineB l)) := by
  unfold skip
  rw [comment_blank h, List.drop_zero]
  conv => lhs; rw [cm, dif_pos (show peek l 0 = 47 ∧ peek l 1 = 47 from h)]
  omega
theorem comment_line {l : List UInt8} (h : comment l) : 2 ≤ span lineB l := by
  match l, h with
  | [], h => simp [comment, peek] at h
  | [b], h => simp [comment, peek] at h
  | b :: c :: l, h =>
    have h1 : (b.toNat : Int) = 47 := h.1
    have h2 : (c.toNat : Int) = 47 := h.2
    rw [span, if_pos (by rw [h1]; rfl), span, if_pos (by rw [h2]; rfl)]; omega
theorem comment_app {g x y : List UInt8} (hg : 2 ≤ g.length) (h : comment (g ++ x)) : comment (g ++ y) := by
  unfold comment peek at h ⊢
  rw [List.getElem?_append_left (by omega), List.getElem?_append_left (by omega)] at h
  rw [List.getElem?_append_left (by omega), List.getElem?_append_left (by omega)]
  exact h
/-- Nothing but blanks and whole comments. -/
def Closed (g : List UInt8) : Prop := ∀ y, skip (g ++ y) = g.length + skip y
theorem closed_of {g x : List UInt8} (h : skip (g ++ x) = g.length) (hx2 : x ≠ []) : Closed g := by
  induction hn : g.length using Nat.strongRecOn generalizing g with
  | _ k ih =>
    cases g with
    | nil => intro y; simp
    | cons b g =>
      by_cases hb : blankB (b.toNat : Int) = true
      · rw [List.cons_append, blank_skip hb] at h
        have := ih g.length (by rw [← hn]; simp) (g := g) (by simp at h; omega) rfl
        intro y
        rw [List.cons_append, blank_skip hb, this y]
        simp; omega
      · by_cases hc : comment (b :: g ++ x)
        · have e := comment_skip hc
          have h2 := comment_line hc
          rw [h] at e
          by_cases hlt : span lineB (b :: g ++ x) < (b :: g).length
          · obtain ⟨c, hcc⟩ : ∃ c, c = span lineB (b :: g ++ x) := ⟨_, rfl⟩
            rw [← hcc] at e h2 hlt
            have hd : (b :: g ++ x).drop c = (b :: g).drop c ++ x := List.drop_append_of_le_length (by omega)
            rw [hd] at e
            have := ih ((b :: g).drop c).length (by rw [List.length_drop, ← hn]; omega) (g := (b :: g).drop c) (by rw [List.length_drop]; omega) rfl
            intro y
            have hs := span_app_lt (f := lineB) (g := b :: g) (x := x) (by rw [← hcc]; exact hlt) y
            rw [comment_skip (comment_app (by omega) hc), hs, ← hcc, List.drop_append_of_le_length (by omega), this y, List.length_drop]
            omega
          · exfalso
            have hge : (b :: g).length ≤ span lineB (b :: g ++ x) := by omega
            have hs := span_app_ge hge x
            have hl0 : span lineB x = 0 := by omega
            have hz : skip ((b :: g ++ x).drop (span lineB (b :: g ++ x))) = 0 := by omega
            rw [hs, hl0, Nat.add_zero, List.drop_left] at hz
            cases x with
            | nil => exact hx2 rfl
            | cons c x =>
              have h10 : (c.toNat : Int) = 10 := by
                by_cases hh : lineB (c.toNat : Int) = true
                · rw [span, if_pos hh] at hl0; omega
                · unfold lineB at hh
                  simpa using hh
              have := blank_skip (b := c) (by rw [h10]; rfl) x
              omega
        · have h0 : span blankB (b :: g ++ x) = 0 := by rw [List.cons_append, span, if_neg hb]
          rw [skip_zero h0 hc] at h
          simp at h
/-! ### Tokens that are cut off -/
theorem cut_get {l v : List UInt8} {k i : Nat} (h : v.take k = l.take k) (hi : i < k) : v[i]? = l[i]? := by
  have := congrArg (fun x : List UInt8 => x[i]?) h
  simpa [List.getElem?_take, hi] using this
theorem cut_peek {l v : List UInt8} {k i : Nat} (h : v.take k = l.take k) (hi : i < k) : peek v i = peek l i := by unfold peek; rw [cut_get h hi]
variable {L : LexL}
end Go.Sim.YtnnfiohdkobkdaaGreatDoor

/- What is proved: gaps that end with the text; blanks that are put in. -/
namespace Go.Sim.YtnnfiohdkobkdaaGreatDoor
open Go.RowKit Go.Proofs Go.Proofs.Tryz
theorem Closed.nil : Closed [] := fun y => by simp
theorem Closed.append {g h : List UInt8} (hg : Closed g) (hh : Closed h) : Closed (g ++ h) := fun y => by
  rw [List.append_assoc, hg, hh, List.length_append]; omega
theorem Closed.blank {b : UInt8} (h : blankB (b.toNat : Int) = true) {g : List UInt8} (hg : Closed g) : Closed (b :: g) := fun y => by
  rw [List.cons_append, blank_skip h, hg]; simp; omega
/-- What may be put in. -/
structure Blank (B : List UInt8) : Prop where
  closed : Closed B
  first : ∃ c t, B = c :: t ∧ ((c.toNat : Int) = 32 ∨ (c.toNat : Int) = 10)
  behind : skip (B.drop (span lineB B)) = B.length - span lineB B
end Go.Sim.YtnnfiohdkobkdaaGreatDoor

/- What is proved: a text with blanks put in ahead of its tokens has the same tokens. -/
namespace Go.Sim.YtnnfiohdkobkdaaGreatDoor
open Go.RowKit Go.Proofs Go.Proofs.Tryz
/-- The text from a token on, blanks put in ahead of the later ones. -/
def re (L : LexL) (B : Nat → List UInt8) (l : List UInt8) (p i : Nat) : List UInt8 :=
  if hl : l = [] then [] else if hm : more L l p = 0 then [] else l.take (more L l p) ++ (B (i + 1) ++ re L B (l.drop (more L l p)) (p + more L l p) (i + 1))
termination_by l.length
decreasing_by
  have : l.length ≠ 0 := fun h => hl (List.eq_nil_of_length_eq_zero h)
  rw [List.length_drop]; omega
variable {L : LexL} {B : Nat → List UInt8}
theorem re_nil {l : List UInt8} {p i : Nat} (h : l = []) : re L B l p i = [] := by rw [re, dif_pos h]
theorem re_more {l : List UInt8} {p i : Nat} (h : l ≠ []) (hm : 1 ≤ more L l p) : re L B l p i = l.take (more L l p) ++ (B (i + 1) ++ re L B (l.drop (more L l p)) (p + more L l p) (i + 1)) := by
  rw [re, dif_neg h, dif_neg (by omega)]
theorem skip_head {l : List UInt8} (h : skip l = 0) : span blankB l = 0 ∧ ¬ comment l := by
  have h1 : span blankB l = 0 := by unfold skip at h; omega
  refine ⟨h1, fun hc => ?_⟩
  have := comment_skip hc
  have := comment_line hc
  omega
end Go.Sim.YtnnfiohdkobkdaaGreatDoor
