/- What is proved: of the tokens of a text: their places, the text from a token's place on, and where no blanks stand. -/
import Derived.Test.YtnnfiohdkobkdaaDoorZLBLexC
namespace Go.Sim.YtnnfiohdkobkdaaDoor
open Go.RowKit Go.Proofs Go.Proofs.Tryd
theorem span_drop (f : Int → Bool) : ∀ l : List UInt8, span f (l.drop (span f l)) = 0
  | [] => rfl
  | b :: l => by
    by_cases h : f (b.toNat : Int) = true
    · rw [show span f (b :: l) = span f l + 1 by rw [span, if_pos h]]
      exact span_drop f l
    · rw [show span f (b :: l) = 0 by rw [span, if_neg h], List.drop_zero, span, if_neg h]
def comment (l : List UInt8) : Prop := peek l 0 = 47 ∧ peek l 1 = 47
theorem cm_done {l : List UInt8} (h0 : span blankB l = 0) : span blankB (l.drop (cm l)) = 0 ∧ ¬ comment (l.drop (cm l)) := by
  induction hn : l.length using Nat.strongRecOn generalizing l with
  | _ n ih =>
    rw [cm]
    split
    · rename_i h
      have h1 := cm_dec h.1
      have h2 := span_le lineB l
      have := ih _ (by simp only [List.length_drop]; omega) (l := (l.drop (span lineB l)).drop (span blankB (l.drop (span lineB l)))) (span_drop _ _) rfl
      rw [List.drop_drop, List.drop_drop] at this
      rw [List.drop_drop] at this ⊢
      exact this
    · rename_i h
      rw [List.drop_zero]; exact ⟨h0, h⟩
theorem skip_zero {l : List UInt8} (h0 : span blankB l = 0) (h1 : ¬ comment l) : skip l = 0 := by
  unfold skip
  rw [h0, List.drop_zero, cm, dif_neg (show ¬ (peek l 0 = 47 ∧ peek l 1 = 47) from h1)]
theorem skip_skip (l : List UInt8) : skip (l.drop (skip l)) = 0 := by
  have := cm_done (span_drop blankB l)
  rw [List.drop_drop] at this
  exact skip_zero this.1 this.2
variable {L : LexL}
theorem tok_at {l : List UInt8} {p : Nat} (h : (tok L l p).1.2 = 0) : (tok L l p).1.1.At = p := by
  unfold tok at h ⊢
  split
  · rename_i h1
    rw [if_pos h1] at h
    split
    · rename_i h2; rw [if_pos h2] at h; simp at h
    · rfl
  · rename_i h1
    rw [if_neg h1] at h
    split
    · rfl
    · rename_i h2
      rw [if_neg h2] at h
      split
      · rename_i h3; rw [if_pos h3] at h; simp at h
      · split <;> rfl
theorem tok_shift (l : List UInt8) (p p' : Nat) : (tok L l p').2 = (tok L l p).2 ∧ (tok L l p').1.2 = (tok L l p).1.2 ∧ (tok L l p').1.1.Kind = (tok L l p).1.1.Kind ∧ (tok L l p').1.1.S = (tok L l p).1.1.S ∧ (tok L l p').1.1.Num = (tok L l p).1.1.Num := by
  unfold tok
  split
  · split
    · exact ⟨rfl, rfl, rfl, rfl, rfl⟩
    · exact ⟨rfl, rfl, rfl, rfl, rfl⟩
  · split
    · exact ⟨rfl, rfl, rfl, rfl, rfl⟩
    · split
      · exact ⟨rfl, rfl, rfl, rfl, rfl⟩
      · split
        · exact ⟨rfl, rfl, rfl, rfl, rfl⟩
        · exact ⟨rfl, rfl, rfl, rfl, rfl⟩
/-- The same tokens, but for their places. -/
def Alike (a b : List GToken) : Prop := a.length = b.length ∧ ∀ (i : Nat) (x y : GToken), a[i]? = some x → b[i]? = some y → x.Kind = y.Kind ∧ x.S = y.S ∧ x.Num = y.Num
theorem Alike.cons {x y : GToken} {a b : List GToken} (h : x.Kind = y.Kind ∧ x.S = y.S ∧ x.Num = y.Num) (k : Alike a b) : Alike (x :: a) (y :: b) := by
  refine ⟨by simp [k.1], fun i u v hu hv => ?_⟩
  cases i with
  | zero => simp at hu hv; subst hu hv; exact h
  | succ i => exact k.2 i u v (by simpa using hu) (by simpa using hv)
/-- What a well-formed result looks like. -/
theorem lexL_cases {l : List UInt8} {p n : Nat} (h : (lexL L l p n).2.1 = 0) :
    (l = [] ∧ lexL L l p n = ([{ GToken.zero with At := p }], 0, 0)) ∨
    (l ≠ [] ∧ ¬ 4000 ≤ n ∧ (tok L l p).1.2 = 0 ∧ (lexL L (l.drop (more L l p)) (p + more L l p) (n + 1)).2.1 = 0 ∧ lexL L l p n = ((tok L l p).1.1 :: (lexL L (l.drop (more L l p)) (p + more L l p) (n + 1)).1, 0, 0)) := by
  by_cases h0 : l = []
  · exact .inl ⟨h0, lexL_nil h0⟩
  by_cases hn : 4000 ≤ n
  · rw [lexL_many h0 hn] at h; simp at h
  by_cases hb : (tok L l p).1.2 = 0
  · have hm := lexL_more h0 hn hb
    by_cases hz : (lexL L (l.drop (more L l p)) (p + more L l p) (n + 1)).2.1 = 0
    · rw [if_pos hz] at hm
      exact .inr ⟨h0, hn, hb, hz, hm⟩
    · rw [if_neg hz] at hm
      rw [hm] at h
      exact absurd h hz
  · rw [lexL_bad h0 hn hb] at h; exact absurd h hb
theorem more_pos {l : List UInt8} {p : Nat} (h0 : l ≠ []) (hb : (tok L l p).1.2 = 0) : 1 ≤ more L l p ∧ more L l p ≤ l.length ∧ skip (l.drop (more L l p)) = 0 := by
  have h1 := tok_len (L := L) (p := p) h0
  have h2 := h1.2 hb
  have h3 := skip_le (l.drop (tok L l p).2)
  rw [List.length_drop] at h3
  have h4 := skip_skip (l.drop (tok L l p).2)
  rw [List.drop_drop] at h4
  unfold more
  exact ⟨by omega, by omega, h4⟩
theorem lexL_head {l : List UInt8} {p n : Nat} (h : (lexL L l p n).2.1 = 0) : ∃ t ts, (lexL L l p n).1 = t :: ts ∧ t.At = p := by
  rcases lexL_cases h with ⟨h0, e⟩ | ⟨h0, h1, h2, h3, e⟩
  · rw [e]; exact ⟨_, [], rfl, rfl⟩
  · rw [e]; exact ⟨_, _, rfl, tok_at h2⟩
end Go.Sim.YtnnfiohdkobkdaaDoor
