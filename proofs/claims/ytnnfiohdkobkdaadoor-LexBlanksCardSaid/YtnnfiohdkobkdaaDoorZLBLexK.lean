/- What is proved: the whole text with blanks put in. -/
import Derived.Test.YtnnfiohdkobkdaaDoorZLBLexJ
namespace Go.Sim.YtnnfiohdkobkdaaDoor
open Go.RowKit Go.Proofs Go.Proofs.Tryd
variable {L : LexL} {B : Nat → List UInt8}
def whole (L : LexL) (B : Nat → List UInt8) (l : List UInt8) : List UInt8 := l.take (skip l) ++ (B 0 ++ re L B (l.drop (skip l)) (skip l) 0)
theorem whole_ok {l : List UInt8} (hB : ∀ i, B i = [] ∨ Blank (B i)) (hl : l.length ≤ 20000) (h : (lexS L l).2.1 = 0) (hw : (whole L B l).length ≤ 20000) :
    (lexS L (whole L B l)).2.1 = 0 ∧ Alike (lexS L l).1 (lexS L (whole L B l)).1 := by
  have hle := skip_le l
  have hT := skip_skip l
  obtain ⟨sk, hsk⟩ : ∃ sk, sk = skip l := ⟨_, rfl⟩
  unfold lexS at h ⊢
  rw [if_neg (by omega)] at h ⊢
  rw [if_neg (by omega)]
  rw [← hsk] at h hle hT ⊢
  have hwe : whole L B l = l.take sk ++ (B 0 ++ re L B (l.drop sk) sk 0) := by rw [hsk]; rfl
  rw [hwe]
  have tl : (l.take sk).length = sk := by rw [List.length_take]; omega
  have hm := fun p' => re_main (L := L) (B := B) hB h hT (i := 0) (p' := p') (n' := 0) (Nat.le_refl _)
  obtain ⟨V, eV⟩ : ∃ V, V = re L B (l.drop sk) sk 0 := ⟨_, rfl⟩
  rw [← eV] at hm ⊢
  have hs : skip (l.take sk ++ (B 0 ++ V)) = sk + (B 0).length := by
    have h1 : skip (l.take sk ++ l.drop sk) = (l.take sk).length := by rw [List.take_append_drop, tl, hsk]
    by_cases hd : l.drop sk = []
    · have hV : V = [] := by rw [eV]; exact re_nil hd
      rw [hd, List.append_nil] at h1
      rw [hV, List.append_nil]
      rcases hB 0 with hb | hb
      · rw [hb, List.append_nil, h1, tl]; rfl
      · rw [blank_behind h1 hb, tl]
    · rw [closed_of h1 hd, tl]
      rcases hB 0 with hb | hb
      · rw [hb, List.nil_append, (hm 0).2.1]; rfl
      · rw [hb.closed, (hm 0).2.1]; rfl
  rw [hs]
  have hdr : (l.take sk ++ (B 0 ++ V)).drop (sk + (B 0).length) = V := by
    rw [← List.append_assoc]
    exact List.drop_left' (by rw [List.length_append, tl])
  rw [hdr]
  obtain ⟨_, _, j1, j2⟩ := hm (sk + (B 0).length)
  exact ⟨j1, j2⟩
end Go.Sim.YtnnfiohdkobkdaaDoor
