/- What is proved: gaps that end with the text; blanks that are put in. -/
import Derived.Test.YtnnfiohdkobkdaaGreatDoorZPBLexG

namespace Go.Sim.YtnnfiohdkobkdaaGreatDoor
open Go.RowKit Go.Proofs Go.Proofs.Tryz
theorem Closed.nil : Closed [] := fun y => by simp
theorem Closed.blank {b : UInt8} (h : blankB (b.toNat : Int) = true) {g : List UInt8} (hg : Closed g) : Closed (b :: g) := fun y => by
 rw [List.cons_append, blank_skip h, hg]; simp; omega
theorem Closed.line {g : List UInt8} {c : Nat} (hc : comment g) (e : c = span lineB g) (hlt : c < g.length) (hg : Closed (g.drop c)) : Closed g := fun y => by
 have h2 := comment_line hc
 have hc' : comment (g ++ []) := by simpa using hc
 have hs := span_app_lt (f := lineB) (g := g) (x := []) (by simpa [← e] using hlt) y
 rw [List.append_nil, ← e] at hs
 rw [comment_skip (comment_app (by omega) hc'), hs, List.drop_append_of_le_length (by omega), hg y, List.length_drop]
 omega
def OpenEnd (g : List UInt8) : Prop := ∃ h c, g = h ++ c /\ Closed h /\ comment c /\ span lineB c = c.length
theorem gap_end {g : List UInt8} (h : skip g = g.length) : Closed g \/ OpenEnd g := by
 induction hn : g.length using Nat.strongRecOn generalizing g with
 | _ k ih =>
  cases g with
  | nil => exact .inl .nil
  | cons b g =>
   by_cases hb : blankB (b.toNat : Int) = true
   ·rw [blank_skip hb] at h
    rcases ih g.length (by rw [← hn]; simp) (g := g) (by simp at h; omega) rfl with h1 | ⟨x, c, e, h1, h2, h3⟩
    ·exact .inl (.blank hb h1)
    ·exact .inr ⟨b :: x, c, by rw [e]; rfl, .blank hb h1, h2, h3⟩
   ·by_cases hc : comment (b :: g)
    ·have e := comment_skip hc
     have h2 := comment_line hc
     have hle := span_le lineB (b :: g)
     rw [h] at e
     obtain ⟨c, hcc⟩ : ∃ c, c = span lineB (b :: g) := ⟨_, rfl⟩
     rw [← hcc] at e h2 hle
     by_cases hlt : c < (b :: g).length
     ·have hd : skip ((b :: g).drop c) = ((b :: g).drop c).length := by rw [List.length_drop]; omega
      rcases ih ((b :: g).drop c).length (by rw [List.length_drop, ← hn]; omega) hd rfl with h1 | ⟨x, d, e1, k1, k2, k3⟩
      ·exact .inl (.line hc hcc hlt h1)
      ·right
       have hsp : (b :: g) = ((b :: g).take c ++ x) ++ d := by rw [List.append_assoc, ← e1, List.take_append_drop]
       have hx : x ≠ [] := by
        rintro rfl
        have hz := span_drop lineB (b :: g)
        rw [← hcc, e1, List.nil_append] at hz
        have := comment_line k2
        omega
       have hxl : 0 < x.length := by cases x with
        | nil => exact absurd rfl hx
        | cons => simp
       have htl : ((b :: g).take c).length = c := by rw [List.length_take]; omega
       refine ⟨(b :: g).take c ++ x, d, hsp, ?_, k2, k3⟩
       have hc1 : comment ((b :: g).take c ++ x) := by
        have : comment (((b :: g).take c ++ x) ++ d) := by rw [← hsp]; exact hc
        have := comment_app (g := (b :: g).take c ++ x) (x := d) (y := []) (by rw [List.length_append]; omega) this
        simpa using this
       have hs1 : span lineB ((b :: g).take c ++ x) = c := by
        have h5 := span_app_lt (f := lineB) (g := (b :: g).take c ++ x) (x := d) (by rw [← hsp, ← hcc, List.length_append]; omega) []
        rw [List.append_nil, ← hsp, ← hcc] at h5
        exact h5
       refine .line hc1 hs1.symm (by rw [List.length_append]; omega) ?_
       rw [List.drop_append_of_le_length (by omega), List.drop_of_length_le (by omega), List.nil_append]
       exact k1
     ·exact .inr ⟨[], b :: g, rfl, .nil, hc, by omega⟩
    ·rw [skip_zero (by rw [span, if_neg hb]) hc] at h
     simp at h
structure Blank (B : List UInt8) : Prop where
 closed : Closed B
 first : ∃ c t, B = c :: t /\ ((c.toNat : Int) = 32 \/ (c.toNat : Int) = 10)
 behind : skip (B.drop (span lineB B)) = B.length - span lineB B
theorem skip_nil : skip [] = 0 := by have := skip_le []; simpa using this
theorem blank_behind {g B : List UInt8} (hg : skip g = g.length) (hB : Blank B) : skip (g ++ B) = g.length + B.length := by
 have hb : skip B = B.length := by have := hB.closed []; rw [List.append_nil, skip_nil] at this; exact this
 rcases gap_end hg with h | ⟨h, c, rfl, h1, h2, h3⟩
 ·rw [h B, hb]
 ·rw [List.append_assoc, h1]
  have hc2 := comment_line h2
  have hs := span_app_ge (f := lineB) (g := c) (x := []) (by rw [List.append_nil]; omega) B
  have hcB : comment (c ++ B) := comment_app (g := c) (x := []) (by omega) (by simpa using h2)
  have hle := span_le lineB B
  rw [comment_skip hcB, hs, List.drop_append, List.drop_of_length_le (by omega), List.nil_append, show c.length + span lineB B - c.length = span lineB B by omega, hB.behind, List.length_append]
  omega
end Go.Sim.YtnnfiohdkobkdaaGreatDoor

/- What is proved: a text with blanks put in ahead of its tokens has the same tokens. -/
namespace Go.Sim.YtnnfiohdkobkdaaGreatDoor
open Go.RowKit Go.Proofs Go.Proofs.Tryz
def re (L : LexL) (B : Nat -> List UInt8) (l : List UInt8) (p i : Nat) : List UInt8 :=
 if hl : l = [] then [] else if hm : more L l p = 0 then [] else l.take (more L l p) ++ (B (i + 1) ++ re L B (l.drop (more L l p)) (p + more L l p) (i + 1))
termination_by l.length
decreasing_by
 have : l.length ≠ 0 := fun h => hl (List.eq_nil_of_length_eq_zero h)
 rw [List.length_drop]; omega
variable {L : LexL} {B : Nat -> List UInt8}
theorem re_nil {l : List UInt8} {p i : Nat} (h : l = []) : re L B l p i = [] := by rw [re, dif_pos h]
theorem re_more {l : List UInt8} {p i : Nat} (h : l ≠ []) (hm : 1 <= more L l p) : re L B l p i = l.take (more L l p) ++ (B (i + 1) ++ re L B (l.drop (more L l p)) (p + more L l p) (i + 1)) := by
 rw [re, dif_neg h, dif_neg (by omega)]
theorem skip_head {l : List UInt8} (h : skip l = 0) : span blankB l = 0 /\ ¬ comment l := by
 have h1 : span blankB l = 0 := by unfold skip at h; omega
 refine ⟨h1, fun hc => ?_⟩
 have := comment_skip hc
 have := comment_line hc
 omega
theorem cut_skip {l v : List UInt8} {k : Nat} (h : Cut l v k) (hl : l ≠ []) (hk : 1 <= k) (hs : skip l = 0) : skip v = 0 := by
 rcases h with rfl | ⟨h1, h2, h3⟩
 ·exact hs
 obtain ⟨s1, s2⟩ := skip_head hs
 have p0 : peek v 0 = peek l 0 := cut_peek h2 (by omega)
 have hv : v ≠ [] := by
  rintro rfl
  have := congrArg List.length h2
  simp at this; omega
 refine skip_zero ?_ ?_
 ·cases v with
  | nil => rfl
  | cons b v =>
   cases l with
   | nil => exact absurd rfl hl
   | cons c l =>
    have e : (b.toNat : Int) = (c.toNat : Int) := p0
    by_cases hb : blankB (c.toNat : Int) = true
    ·rw [span, if_pos hb] at s1; omega
    ·rw [span, if_neg (by rw [e]; exact hb)]
 ·rintro ⟨g1, g2⟩
  by_cases hk1 : 1 < k
  ·rw [p0] at g1
   rw [cut_peek h2 hk1] at g2
   exact s2 ⟨g1, g2⟩
  ·have : k = 1 := by omega
   have := cut_c h3
   subst k
   omega
theorem re_main (hB : ∀ i, B i = [] \/ Blank (B i)) {l : List UInt8} {p n i p' n' : Nat} (h : (lexL L l p n).2.1 = 0) (hs : skip l = 0) (hn : n' <= n) :
    (∃ k, Cut l (re L B l p i) k /\ (l = [] \/ more L l p <= k)) /\ skip (re L B l p i) = 0 /\ (lexL L (re L B l p i) p' n').2.1 = 0 /\ Alike (lexL L l p n).1 (lexL L (re L B l p i) p' n').1 := by
  induction hlen : l.length using Nat.strongRecOn generalizing l p n i p' n' with
  | _ N ih =>
    rcases lexL_cases h with ⟨g0, e⟩ | ⟨g0, g1, g2, g3, e⟩
    · rw [re_nil g0, e, lexL_nil rfl]
      exact ⟨⟨0, .inl g0.symm, .inl g0⟩, skip_nil, rfl, .cons ⟨rfl, rfl, rfl⟩ ⟨rfl, fun i x y hx => by simp at hx⟩⟩
    have hm := more_pos (L := L) g0 g2
    obtain ⟨m, em⟩ : ∃ m, m = more L l p := ⟨_, rfl⟩
    rw [re_more g0 hm.1]
    rw [← em] at hm g3 e ⊢
    obtain ⟨m1, m2, m3⟩ := hm
    have ihh := fun p'' n'' hn'' => ih _ (by rw [List.length_drop]; omega) (l := l.drop m) (p := p + m) (n := n + 1) (i := i + 1) (p' := p'') (n' := n'') g3 m3 hn'' rfl
    obtain ⟨V, eV⟩ : ∃ V, V = re L B (l.drop m) (p + m) (i + 1) := ⟨_, rfl⟩
    rw [← eV] at ihh ⊢
    obtain ⟨⟨k', hcut', _⟩, hsV, _, _⟩ := ihh 0 0 (Nat.zero_le _)
    have tl1 : (l.take m).length = m := by rw [List.length_take]; omega
    obtain ⟨k, hcut, hkm⟩ : ∃ k, Cut l (l.take m ++ (B (i + 1) ++ V)) k /\ m <= k := by
      rcases hB (i + 1) with hb | hb
      · rw [hb, List.nil_append]
        rcases hcut' with hv | ⟨c1, c2, c, c3, c4⟩
        · exact ⟨m, .inl (by rw [hv, List.take_append_drop]), Nat.le_refl _⟩
        · rw [List.length_drop] at c1
          refine ⟨m + k', .inr ⟨by omega, ?_, c, ?_, c4⟩, by omega⟩
          · rw [List.take_append, tl1, show m + k' - m = k' by omega, c2, List.take_of_length_le (by omega), ← List.take_add]
          · rw [List.getElem?_append_right (by omega), tl1, show m + k' - m = k' by omega]; exact c3
      · obtain ⟨c, t, e1, e2⟩ := hb.first
        refine ⟨m, .inr ⟨m2, by rw [List.take_append_of_le_length (by omega), List.take_of_length_le (by omega)], c, ?_, e2⟩, Nat.le_refl _⟩
        rw [List.getElem?_append_right (by omega), tl1, Nat.sub_self, e1]; rfl
    have htl : (tok L l p).2 <= m := by rw [em]; unfold more; omega
    have ht := tok_cut (L := L) (p := p) hcut g0 g2 (by omega)
    obtain ⟨s1, s2, s3, s4, s5⟩ := tok_shift (L := L) (l.take m ++ (B (i + 1) ++ V)) p p'
    rw [ht] at s1 s2 s3 s4 s5
    have hVne : l.take m ++ (B (i + 1) ++ V) ≠ [] := fun hnil => by
      have := congrArg List.length hnil
      rw [List.length_append, tl1] at this
      simp at this; omega
    have hgap : skip ((l.take m ++ (B (i + 1) ++ V)).drop (tok L l p).2) = m - (tok L l p).2 + (B (i + 1)).length := by
      obtain ⟨q, hq⟩ : ∃ q, q = (tok L l p).2 := ⟨_, rfl⟩
      rw [← hq] at htl ⊢
      obtain ⟨g, hg⟩ : ∃ g, g = (l.take m).drop q := ⟨_, rfl⟩
      have gl : g.length = m - q := by rw [hg, List.length_drop, tl1]
      have hsk : skip (g ++ l.drop m) = g.length := by
        have e1 : g ++ l.drop m = l.drop q := by
          rw [hg]
          conv => rhs; rw [← List.take_append_drop m l]
          rw [List.drop_append_of_le_length (by omega)]
        rw [e1, gl, em]
        unfold more
        rw [← hq]; omega
      rw [List.drop_append_of_le_length (by omega), ← hg, ← gl]
      by_cases hd : l.drop m = []
      · have hV : V = [] := by rw [eV]; exact re_nil hd
        rw [hd, List.append_nil] at hsk
        rw [hV, List.append_nil]
        rcases hB (i + 1) with hb | hb
        · rw [hb, List.append_nil, hsk]; rfl
        · exact blank_behind hsk hb
      · have hcl := closed_of hsk hd
        rw [hcl]
        rcases hB (i + 1) with hb | hb
        · rw [hb, List.nil_append, hsV]; rfl
        · rw [hb.closed, hsV]; rfl
    have hmore : more L (l.take m ++ (B (i + 1) ++ V)) p' = m + (B (i + 1)).length := by
      unfold more; rw [s1, hgap]; omega
    have hdrop : (l.take m ++ (B (i + 1) ++ V)).drop (m + (B (i + 1)).length) = V := by
      rw [← List.append_assoc]
      exact List.drop_left' (by rw [List.length_append, tl1])
    obtain ⟨_, _, j1, j2⟩ := ihh (p' + (m + (B (i + 1)).length)) (n' + 1) (by omega)
    have hl' := lexL_more (L := L) (p := p') (n := n') hVne (by omega) (by rw [s2]; exact g2)
    rw [hmore, hdrop, if_pos j1] at hl'
    refine ⟨⟨k, hcut, .inr hkm⟩, cut_skip hcut g0 (by omega) hs, by rw [hl'], ?_⟩
    rw [e, hl']
    exact .cons ⟨s3.symm, s4.symm, s5.symm⟩ j2
end Go.Sim.YtnnfiohdkobkdaaGreatDoor
