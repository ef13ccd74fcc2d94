/- What is proved: gaps between tokens, one behind the other; a token stays as it is if what follows it is cut, and a blank put there. -/
import Derived.Test.YtnnfiohdkobkdaaGreatDoorZPBLexD

namespace Go.Sim.YtnnfiohdkobkdaaGreatDoor
open Go.RowKit Go.Proofs Go.Proofs.Tryz
theorem span_app_lt {f : Int -> Bool} : ∀ {g x : List UInt8}, span f (g ++ x) < g.length -> ∀ y, span f (g ++ y) = span f (g ++ x)
 | [], x, h, _ => by simp at h
 | b :: g, x, h, y => by
  simp only [List.cons_append] at h ⊢
  by_cases hb : f (b.toNat : Int) = true
  ·rw [span, if_pos hb] at h
   rw [span, if_pos hb, span, if_pos hb, span_app_lt (by simpa using h) y]
  ·rw [span, if_neg hb, span, if_neg hb]
theorem span_app_ge {f : Int -> Bool} : ∀ {g x : List UInt8}, g.length <= span f (g ++ x) -> ∀ y, span f (g ++ y) = g.length + span f y
 | [], x, _, y => by simp
 | b :: g, x, h, y => by
  simp only [List.cons_append] at h ⊢
  by_cases hb : f (b.toNat : Int) = true
  ·rw [span, if_pos hb] at h
   rw [span, if_pos hb, span_app_ge (g := g) (x := x) (by simp at h; omega) y]
   simp; omega
  ·rw [span, if_neg hb] at h
   simp at h
theorem blank_skip {b : UInt8} (h : blankB (b.toNat : Int) = true) (x : List UInt8) : skip (b :: x) = 1 + skip x := by
 unfold skip
 rw [show span blankB (b :: x) = span blankB x + 1 by rw [span, if_pos h]]
 rw [List.drop_succ_cons]; omega
theorem comment_blank {l : List UInt8} (h : comment l) : span blankB l = 0 := by
 cases l with
 | nil => rfl
 | cons b l =>
  have : (b.toNat : Int) = 47 := h.1
  rw [span, if_neg (by rw [this]; decide)]
theorem comment_skip {l : List UInt8} (h : comment l) : skip l = span lineB l + skip (l.drop (span lineB l)) := by
 unfold skip
 rw [comment_blank h, List.drop_zero]
 conv => lhs; rw [cm, dif_pos (show peek l 0 = 47 /\ peek l 1 = 47 from h)]
 omega
theorem comment_line {l : List UInt8} (h : comment l) : 2 <= span lineB l := by
 match l, h with
 | [], h => simp [comment, peek] at h
 | [b], h => simp [comment, peek] at h
 | b :: c :: l, h =>
  have h1 : (b.toNat : Int) = 47 := h.1
  have h2 : (c.toNat : Int) = 47 := h.2
  rw [span, if_pos (by rw [h1]; rfl), span, if_pos (by rw [h2]; rfl)]; omega
theorem comment_app {g x y : List UInt8} (hg : 2 <= g.length) (h : comment (g ++ x)) : comment (g ++ y) := by
 unfold comment peek at h ⊢
 rw [List.getElem?_append_left (by omega), List.getElem?_append_left (by omega)] at h
 rw [List.getElem?_append_left (by omega), List.getElem?_append_left (by omega)]
 exact h
def Closed (g : List UInt8) : Prop := ∀ y, skip (g ++ y) = g.length + skip y
theorem closed_of {g x : List UInt8} (h : skip (g ++ x) = g.length) (hx2 : x ≠ []) : Closed g := by
 induction hn : g.length using Nat.strongRecOn generalizing g with
 | _ k ih =>
  cases g with
  | nil => intro y; simp
  | cons b g =>
   by_cases hb : blankB (b.toNat : Int) = true
   ·rw [List.cons_append, blank_skip hb] at h
    have := ih g.length (by rw [← hn]; simp) (g := g) (by simp at h; omega) rfl
    intro y
    rw [List.cons_append, blank_skip hb, this y]
    simp; omega
   ·by_cases hc : comment (b :: g ++ x)
    ·have e := comment_skip hc
     have h2 := comment_line hc
     rw [h] at e
     by_cases hlt : span lineB (b :: g ++ x) < (b :: g).length
     ·obtain ⟨c, hcc⟩ : ∃ c, c = span lineB (b :: g ++ x) := ⟨_, rfl⟩
      rw [← hcc] at e h2 hlt
      have hd : (b :: g ++ x).drop c = (b :: g).drop c ++ x := List.drop_append_of_le_length (by omega)
      rw [hd] at e
      have := ih ((b :: g).drop c).length (by rw [List.length_drop, ← hn]; omega) (g := (b :: g).drop c) (by rw [List.length_drop]; omega) rfl
      intro y
      have hs := span_app_lt (f := lineB) (g := b :: g) (x := x) (by rw [← hcc]; exact hlt) y
      rw [comment_skip (comment_app (by omega) hc), hs, ← hcc, List.drop_append_of_le_length (by omega), this y, List.length_drop]
      omega
     ·exfalso
      have hge : (b :: g).length <= span lineB (b :: g ++ x) := by omega
      have hs := span_app_ge hge x
      have hl0 : span lineB x = 0 := by omega
      have hz : skip ((b :: g ++ x).drop (span lineB (b :: g ++ x))) = 0 := by omega
      rw [hs, hl0, Nat.add_zero, List.drop_left] at hz
      cases x with
      | nil => exact hx2 rfl
      | cons c x =>
       have h10 : (c.toNat : Int) = 10 := by
        by_cases hh : lineB (c.toNat : Int) = true
        ·rw [span, if_pos hh] at hl0; omega
        ·unfold lineB at hh
         simpa using hh
       have := blank_skip (b := c) (by rw [h10]; rfl) x
       omega
    ·have h0 : span blankB (b :: g ++ x) = 0 := by rw [List.cons_append, span, if_neg hb]
     rw [skip_zero h0 hc] at h
     simp at h
def Cut (l v : List UInt8) (k : Nat) : Prop := v = l \/ (k <= l.length /\ v.take k = l.take k /\ ∃ c : UInt8, v[k]? = some c /\ ((c.toNat : Int) = 32 \/ (c.toNat : Int) = 10))
theorem cut_get {l v : List UInt8} {k i : Nat} (h : v.take k = l.take k) (hi : i < k) : v[i]? = l[i]? := by
 have := congrArg (fun x : List UInt8 => x[i]?) h
 simpa [List.getElem?_take, hi] using this
theorem cut_peek {l v : List UInt8} {k i : Nat} (h : v.take k = l.take k) (hi : i < k) : peek v i = peek l i := by unfold peek; rw [cut_get h hi]
theorem span_cut {f : Int -> Bool} : ∀ {k : Nat} {l v : List UInt8}, v.take k = l.take k -> k <= l.length -> span f l <= k -> (∃ c : UInt8, v[k]? = some c /\ f (c.toNat : Int) = false) -> span f v = span f l
 | 0, l, v, _, _, h2, ⟨c, hc, hf⟩ => by
  cases v with
  | nil => simp at hc
  | cons d v =>
   simp at hc; subst hc
   rw [span, if_neg (by simp [hf])]; omega
 | k + 1, l, v, h, hl, h2, ⟨c, hc, hf⟩ => by
  cases l with
  | nil => simp at hl
  | cons b l =>
   cases v with
   | nil => simp at hc
   | cons d v =>
    simp only [List.take_succ_cons, List.cons.injEq] at h
    obtain ⟨rfl, h⟩ := h
    by_cases hb : f (d.toNat : Int) = true
    ·rw [span, if_pos hb] at h2 ⊢
     rw [span, if_pos hb, span_cut h (by simpa using hl) (by omega) ⟨c, by simpa using hc, hf⟩]
    ·rw [span, if_neg hb, span, if_neg hb]
theorem cut_c {v : List UInt8} {k : Nat} (h : ∃ c : UInt8, v[k]? = some c /\ ((c.toNat : Int) = 32 \/ (c.toNat : Int) = 10)) : peek v k = 32 \/ peek v k = 10 := by
 obtain ⟨c, hc, h⟩ := h
 unfold peek; rw [hc]; exact h
theorem no_digit {x : Int} (h : x = 32 \/ x = 10) : digitB x = false := by rcases h with rfl | rfl <;> decide
theorem no_exp {x : Int} (h : x = 32 \/ x = 10) : ¬ bits .or .u8 x 32 = 101 := by rcases h with rfl | rfl <;> decide +kernel
theorem drop_take {l v : List UInt8} {k i : Nat} (h : v.take k = l.take k) : (v.drop i).take (k - i) = (l.drop i).take (k - i) := by
 rw [← List.drop_take, ← List.drop_take, h]
theorem numLen_cut {k : Nat} {l v : List UInt8} (h : v.take k = l.take k) (hl : k <= l.length) (hn : numLen l <= k) (hc : ∃ c : UInt8, v[k]? = some c /\ ((c.toNat : Int) = 32 \/ (c.toNat : Int) = 10)) : numLen v = numLen l := by
  have hpk := cut_c hc
  have hdig : ∃ c : UInt8, v[k]? = some c /\ digitB (c.toNat : Int) = false := by
    obtain ⟨c, h1, h2⟩ := hc; exact ⟨c, h1, no_digit h2⟩
  have pk : ∀ i, i < k -> peek v i = peek l i := fun i hi => cut_peek h hi
  have spd : ∀ i, i <= k -> span digitB (l.drop i) <= k - i -> span digitB (v.drop i) = span digitB (l.drop i) := fun i hi hs =>
    span_cut (k := k - i) (drop_take h) (by rw [List.length_drop]; omega) hs (by
      obtain ⟨c, h1, h2⟩ := hdig
      exact ⟨c, by rw [List.getElem?_drop, show i + (k - i) = k by omega]; exact h1, h2⟩)
  have b0 := span_le digitB l
  have b1 := fracEnd_le b0
  have b2 := expEnd_le b1.2
  have e0 : span digitB v = span digitB l := by
    have := spd 0 (Nat.zero_le _) (by rw [List.drop_zero]; unfold numLen at hn; omega)
    simpa using this
  unfold numLen at hn ⊢
  rw [e0]
  obtain ⟨a, ha⟩ : ∃ a, a = span digitB l := ⟨_, rfl⟩
  rw [← ha] at b0 b1 b2 hn ⊢
  have e1 : fracEnd v a = fracEnd l a := by
    by_cases c0 : peek l a = 46 /\ digitB (peek l (a + 1)) = true
    · have hf : fracEnd l a = a + 1 + span digitB (l.drop (a + 1)) := by unfold fracEnd; rw [if_pos c0]
      have hpos : 1 <= span digitB (l.drop (a + 1)) := span_pos (fun hnil => by
        have := peek_len (digit0 c0.2)
        have h3 := congrArg List.length hnil
        rw [List.length_drop] at h3; simp at h3; omega) (by rw [peek_drop, Nat.add_zero]; exact c0.2)
      unfold fracEnd
      rw [if_pos c0, if_pos (by rw [pk a (by omega), pk (a + 1) (by omega)]; exact c0), spd (a + 1) (by omega) (by omega)]
    · have c1 : ¬ (peek v a = 46 /\ digitB (peek v (a + 1)) = true) := by
        rintro ⟨g1, g2⟩
        by_cases hk : a = k
        · rw [hk] at g1; omega
        by_cases hk2 : a + 1 = k
        · rw [hk2, no_digit hpk] at g2; cases g2
        · rw [pk a (by omega)] at g1
          rw [pk (a + 1) (by omega)] at g2
          exact c0 ⟨g1, g2⟩
      unfold fracEnd
      rw [if_neg c0, if_neg c1]
  rw [e1]
  obtain ⟨b, hb⟩ : ∃ b, b = fracEnd l a := ⟨_, rfl⟩
  rw [← hb] at b1 b2 hn ⊢
  by_cases c0 : bits .or .u8 (peek l b) 32 = 101 /\ digitB (peek l (b + expSkip l b)) = true
  · have hf : expEnd l b = b + expSkip l b + span digitB (l.drop (b + expSkip l b)) := by unfold expEnd; rw [if_pos c0]
    have hpos : 1 <= span digitB (l.drop (b + expSkip l b)) := span_pos (fun hnil => by
      have := peek_len (digit0 c0.2)
      have h3 := congrArg List.length hnil
      rw [List.length_drop] at h3; simp at h3; omega) (by rw [peek_drop, Nat.add_zero]; exact c0.2)
    have hsk : 1 <= expSkip l b := by unfold expSkip; split <;> omega
    have esk : expSkip v b = expSkip l b := by unfold expSkip; rw [pk (b + 1) (by omega)]
    unfold expEnd
    rw [esk, if_pos c0, if_pos (by rw [pk b (by omega), pk (b + expSkip l b) (by omega)]; exact c0), spd _ (by omega) (by omega)]
  · have c1 : ¬ (bits .or .u8 (peek v b) 32 = 101 /\ digitB (peek v (b + expSkip v b)) = true) := by
      rintro ⟨g1, g2⟩
      have hbk : b < k := by
        by_cases hk : b = k
        · rw [hk] at g1; exact absurd g1 (no_exp hpk)
        · omega
      by_cases hk1 : b + 1 = k
      · have : expSkip v b = 1 := by unfold expSkip; rw [hk1, if_neg (by omega)]
        rw [this, hk1, no_digit hpk] at g2; cases g2
      · have esk : expSkip v b = expSkip l b := by unfold expSkip; rw [pk (b + 1) (by omega)]
        have hsk2 : expSkip l b <= 2 := by unfold expSkip; split <;> omega
        rw [esk] at g2
        by_cases hk2 : b + expSkip l b = k
        · rw [hk2, no_digit hpk] at g2; cases g2
        · rw [pk b hbk] at g1
          rw [pk (b + expSkip l b) (by omega)] at g2
          exact c0 ⟨g1, g2⟩
    unfold expEnd
    rw [if_neg c0, if_neg c1]
variable {L : LexL}
theorem no_name {x : Int} (h : x = 32 \/ x = 10) : nameB x = false := by rcases h with rfl | rfl <;> decide +kernel
theorem tok_cut {l v : List UInt8} {k p : Nat} (h : Cut l v k) (hl : l ≠ []) (hok : (tok L l p).1.2 = 0) (hk : (tok L l p).2 <= k) : tok L v p = tok L l p := by
 rcases h with rfl | ⟨h1, h2, h3⟩
 ·rfl
 have hpk := cut_c h3
 have hpos := (tok_len (L := L) (p := p) hl).2 hok
 have p0 : peek v 0 = peek l 0 := cut_peek h2 (by omega)
 have tk : ∀ n, n <= k -> v.take n = l.take n := fun n hn => by
  have := congrArg (List.take n) h2
  rwa [List.take_take, List.take_take, Nat.min_eq_left hn] at this
 unfold tok at hok hk hpos ⊢
 rw [p0]
 by_cases c0 : letterB (peek l 0) = true
 ·rw [if_pos c0] at hok hk ⊢
  rw [if_pos c0]
  have hs : span nameB l <= k := by
   by_cases c1 : 24 < span nameB l
   ·rw [if_pos c1] at hok; simp at hok
   ·rw [if_neg c1] at hk; exact hk
  have es : span nameB v = span nameB l := span_cut h2 h1 hs (by obtain ⟨c, g1, g2⟩ := h3; exact ⟨c, g1, no_name g2⟩)
  rw [es, tk _ hs]
 ·rw [if_neg c0] at hok hk hpos ⊢
  rw [if_neg c0]
  by_cases c1 : digitB (peek l 0) = true
  ·rw [if_pos c1] at hok hk ⊢
   rw [if_pos c1]
   rw [numLen_cut h2 h1 hk h3, tk _ hk]
  ·rw [if_neg c1] at hok hk hpos ⊢
   rw [if_neg c1]
   by_cases c2 : L.ix (peek l 0) < 0
   ·rw [if_pos c2, if_pos c2]
   ·rw [if_neg c2] at hok hk hpos ⊢
    rw [if_neg c2]
    by_cases c3 : peek l 0 = 46 /\ peek l 1 = 46
    ·rw [if_pos c3] at hk ⊢
     rw [if_pos (by rw [cut_peek h2 (show 1 < k by omega)]; exact c3), tk 2 hk]
    ·rw [if_neg c3] at hk ⊢
     rw [if_neg (by
      rintro ⟨g1, g2⟩
      by_cases hk1 : 1 < k
      ·rw [cut_peek h2 hk1] at g2; exact c3 ⟨g1, g2⟩
      ·have : k = 1 := by omega
       rw [this] at hpk; omega), tk 1 hk]
end Go.Sim.YtnnfiohdkobkdaaGreatDoor
