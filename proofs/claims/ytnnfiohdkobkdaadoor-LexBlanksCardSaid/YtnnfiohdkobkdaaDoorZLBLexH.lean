/- What is proved: gaps that end with the text; blanks that are put in. -/
import Derived.Test.YtnnfiohdkobkdaaDoorZLBLexG
namespace Go.Sim.YtnnfiohdkobkdaaDoor
open Go.RowKit Go.Proofs Go.Proofs.Tryd
theorem Closed.nil : Closed [] := fun y => by simp
theorem Closed.append {g h : List UInt8} (hg : Closed g) (hh : Closed h) : Closed (g ++ h) := fun y => by
  rw [List.append_assoc, hg, hh, List.length_append]; omega
theorem Closed.blank {b : UInt8} (h : blankB (b.toNat : Int) = true) {g : List UInt8} (hg : Closed g) : Closed (b :: g) := fun y => by
  rw [List.cons_append, blank_skip h, hg]; simp; omega
/-- A comment, and closed text behind it that ends its line. -/
theorem Closed.line {g : List UInt8} {c : Nat} (hc : comment g) (e : c = span lineB g) (hlt : c < g.length) (hg : Closed (g.drop c)) : Closed g := fun y => by
  have h2 := comment_line hc
  have hc' : comment (g ++ []) := by simpa using hc
  have hs := span_app_lt (f := lineB) (g := g) (x := []) (by simpa [← e] using hlt) y
  rw [List.append_nil, ← e] at hs
  rw [comment_skip (comment_app (by omega) hc'), hs, List.drop_append_of_le_length (by omega), hg y, List.length_drop]
  omega
/-- A gap at a text's end. -/
def OpenEnd (g : List UInt8) : Prop := ∃ h c, g = h ++ c ∧ Closed h ∧ comment c ∧ span lineB c = c.length
theorem gap_end {g : List UInt8} (h : skip g = g.length) : Closed g ∨ OpenEnd g := by
  induction hn : g.length using Nat.strongRecOn generalizing g with
  | _ k ih =>
    cases g with
    | nil => exact .inl .nil
    | cons b g =>
      by_cases hb : blankB (b.toNat : Int) = true
      · rw [blank_skip hb] at h
        rcases ih g.length (by rw [← hn]; simp) (g := g) (by simp at h; omega) rfl with h1 | ⟨x, c, e, h1, h2, h3⟩
        · exact .inl (.blank hb h1)
        · exact .inr ⟨b :: x, c, by rw [e]; rfl, .blank hb h1, h2, h3⟩
      · by_cases hc : comment (b :: g)
        · have e := comment_skip hc
          have h2 := comment_line hc
          have hle := span_le lineB (b :: g)
          rw [h] at e
          obtain ⟨c, hcc⟩ : ∃ c, c = span lineB (b :: g) := ⟨_, rfl⟩
          rw [← hcc] at e h2 hle
          by_cases hlt : c < (b :: g).length
          · have hd : skip ((b :: g).drop c) = ((b :: g).drop c).length := by rw [List.length_drop]; omega
            rcases ih ((b :: g).drop c).length (by rw [List.length_drop, ← hn]; omega) hd rfl with h1 | ⟨x, d, e1, k1, k2, k3⟩
            · exact .inl (.line hc hcc hlt h1)
            · right
              have hsp : (b :: g) = ((b :: g).take c ++ x) ++ d := by rw [List.append_assoc, ← e1, List.take_append_drop]
              have hx : x ≠ [] := by
                rintro rfl
                have hz := span_drop lineB (b :: g)
                rw [← hcc, e1, List.nil_append] at hz
                have := comment_line k2
                omega
              have hxl : 0 < x.length := by cases x with
                | nil => exact absurd rfl hx
                | cons => simp
              have htl : ((b :: g).take c).length = c := by rw [List.length_take]; omega
              refine ⟨(b :: g).take c ++ x, d, hsp, ?_, k2, k3⟩
              have hc1 : comment ((b :: g).take c ++ x) := by
                have : comment (((b :: g).take c ++ x) ++ d) := by rw [← hsp]; exact hc
                have := comment_app (g := (b :: g).take c ++ x) (x := d) (y := []) (by rw [List.length_append]; omega) this
                simpa using this
              have hs1 : span lineB ((b :: g).take c ++ x) = c := by
                have h5 := span_app_lt (f := lineB) (g := (b :: g).take c ++ x) (x := d) (by rw [← hsp, ← hcc, List.length_append]; omega) []
                rw [List.append_nil, ← hsp, ← hcc] at h5
                exact h5
              refine .line hc1 hs1.symm (by rw [List.length_append]; omega) ?_
              rw [List.drop_append_of_le_length (by omega), List.drop_of_length_le (by omega), List.nil_append]
              exact k1
          · exact .inr ⟨[], b :: g, rfl, .nil, hc, by omega⟩
        · rw [skip_zero (by rw [span, if_neg hb]) hc] at h
          simp at h
/-- What may be put in. -/
structure Blank (B : List UInt8) : Prop where
  closed : Closed B
  first : ∃ c t, B = c :: t ∧ ((c.toNat : Int) = 32 ∨ (c.toNat : Int) = 10)
  behind : skip (B.drop (span lineB B)) = B.length - span lineB B
theorem skip_nil : skip [] = 0 := by have := skip_le []; simpa using this
theorem blank_behind {g B : List UInt8} (hg : skip g = g.length) (hB : Blank B) : skip (g ++ B) = g.length + B.length := by
  have hb : skip B = B.length := by have := hB.closed []; rw [List.append_nil, skip_nil] at this; exact this
  rcases gap_end hg with h | ⟨h, c, rfl, h1, h2, h3⟩
  · rw [h B, hb]
  · rw [List.append_assoc, h1]
    have hc2 := comment_line h2
    have hs := span_app_ge (f := lineB) (g := c) (x := []) (by rw [List.append_nil]; omega) B
    have hcB : comment (c ++ B) := comment_app (g := c) (x := []) (by omega) (by simpa using h2)
    have hle := span_le lineB B
    rw [comment_skip hcB, hs, List.drop_append, List.drop_of_length_le (by omega), List.nil_append, show c.length + span lineB B - c.length = span lineB B by omega, hB.behind, List.length_append]
    omega
end Go.Sim.YtnnfiohdkobkdaaDoor
