/- What is proved: the statement LexBlanks, given what the lexer's callees yield. -/
import Derived.Test.YtnnfiohdkobkdaaDoorZLBLexN
import Derived.Test.YtnnfiohdkobkdaaDoorZLBLexM
import Derived.Test.YtnnfiohdkobkdaaDoorZLBLexE
namespace Go.Sim.YtnnfiohdkobkdaaDoor
open Go.RowKit Go.Proofs Go.Proofs.Tryd
variable {L : LexL}
theorem tl_append (a b : ByteArray) : tl (a ++ b) 0 = tl a 0 ++ tl b 0 := by
  unfold tl; simp
theorem tl_bs0 (l : List UInt8) : tl (bs l) 0 = l := by unfold tl bs; simp
/-- What holds ahead of token i: the text so far t, the last place q. -/
def Mid (L : LexL) (m : List Int) (s : ByteArray) (a : List GToken) (i : Nat) (t : ByteArray) (q : Nat) : Prop :=
  q ≤ s.size ∧ t.size ≤ i * 20015 ∧
  ((i < a.length ∧ ∃ P, q ≤ P ∧ P ≤ s.size ∧ (lexL L (tl s P) P i).2.1 = 0 ∧ (lexL L (tl s P) P i).1 = a.drop i ∧ skip (tl s P) = 0 ∧
    tl t 0 ++ ((tl s q).take (P - q) ++ (bl m i ++ re L (bl m) (tl s P) P i)) = whole L (bl m) (tl s 0)) ∨
   (i = a.length ∧ tl t 0 ++ tl s q = whole L (bl m) (tl s 0)))
theorem Mid.next {m : List Int} {s : ByteArray} {a : List GToken} {i : Nat} {t : ByteArray} {q : Nat} (h : Mid L m s a i t q) (hi : i < a.length) (hs : s.size ≤ 20000) :
    ∃ P, q ≤ P ∧ P ≤ s.size ∧ (a[i]'hi).At = (P : Int) ∧ ∀ t', tl t' 0 = tl t 0 ++ ((tl s q).take (P - q) ++ bl m i) → Mid L m s a (i + 1) t' P := by
  obtain ⟨h1, h2, ⟨_, P, h3, h4, h5, h6, h7, h8⟩ | ⟨h3, _⟩⟩ := h
  rotate_left
  · omega
  have hd := List.drop_eq_getElem_cons hi
  obtain ⟨u, us, e1, e2⟩ := lexL_head h5
  have e3 : u = a[i] := by rw [h6, hd] at e1; exact (List.cons.inj e1).1.symm
  refine ⟨P, h3, h4, by rw [← e3, e2], fun t' ht' => ?_⟩
  have hsz : t'.size = t.size + ((tl s q).take (P - q)).length + (bl m i).length := by
    have := congrArg List.length ht'
    rw [tl_len, List.length_append, List.length_append, tl_len] at this
    omega
  have hb := bl_le m i
  have hw : tl t' 0 ++ re L (bl m) (tl s P) P i = whole L (bl m) (tl s 0) := by
    rw [ht', ← h8]; simp only [List.append_assoc]
  refine ⟨h4, by rw [hsz, List.length_take, tl_len]; omega, ?_⟩
  rcases lexL_cases h5 with ⟨g0, e⟩ | ⟨g0, g1, g2, g3, e⟩
  · right
    rw [re_nil g0] at hw
    rw [g0]
    refine ⟨?_, hw⟩
    have h9 := congrArg Prod.fst e
    rw [h6, hd] at h9
    have h10 := congrArg List.length h9
    simp at h10
    omega
  · left
    obtain ⟨m1, m2, m3⟩ := more_pos (L := L) g0 g2
    rw [re_more g0 m1] at hw
    rw [tl_len] at m2
    rw [tl_drop] at g3 m3 hw
    have h9 := congrArg Prod.fst e
    rw [h6, hd] at h9
    have h10 := (List.cons.inj h9).2
    rw [tl_drop] at h10
    obtain ⟨u2, us2, k1, _⟩ := lexL_head g3
    have hi2 : i + 1 < a.length := by
      have := congrArg List.length (h10.trans k1)
      simp at this
      omega
    refine ⟨hi2, P + more L (tl s P) P, by omega, by omega, g3, h10.symm, m3, ?_⟩
    rw [Nat.add_sub_cancel_left]
    exact hw
end Go.Sim.YtnnfiohdkobkdaaDoor
