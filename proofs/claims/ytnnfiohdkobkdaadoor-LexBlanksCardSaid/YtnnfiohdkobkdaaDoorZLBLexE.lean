/- What is proved: the statement LexPlaces, given what the lexer's callees yield. -/
import Derived.Test.YtnnfiohdkobkdaaDoorZLBLexD
import Derived.Test.YtnnfiohdkobkdaaDoorZLBWLw
namespace Go.Sim.YtnnfiohdkobkdaaDoor
open Go.RowKit Go.Proofs Go.Proofs.Tryd
theorem At.is {α : Type} {xs : List α} {i : Nat} {k : α → Prop} {x : α} (hx : xs[i]? = some x) (hk : k x) : At xs (i : Int) k := ⟨by omega, x, by rw [Int.toNat_natCast]; exact hx, hk⟩
theorem like_ev {a b : List GToken} (h : Alike a b) (hl : a.length ≤ 9000000) : Ev_ref12_Like a b false true := by
  refine walk_ref12_Like ?_
  unfold W_ref12_Like
  have hlen := h.1
  refine Br.f (by rw [hlen]; simp) (Loop1.up a.length (fun _ => True) trivial ?_)
  intro i k hi _ hk
  refine Br.d (fun hlt => ?_) (fun _ => rfl)
  have hi1 : i < a.length := by omega
  have hx : a[i]? = some a[i] := List.getElem?_eq_getElem hi1
  have hy : b[i]? = some (b[i]'(by omega)) := List.getElem?_eq_getElem (by omega)
  obtain ⟨h1, h2, h3⟩ := h.2 i _ _ hx hy
  have hnum : (!GRat.beq a[i].Num (b[i]'(by omega)).Num) = false := by rw [(GRat.beq_iff _ _).2 h3]; rfl
  refine At.is hx (At.is hy (Br.f (by rw [h1]; simp) (At.is hx (At.is hy (Br.f (by rw [h2]; simp) (At.is hx (At.is hy (Br.f hnum (Br.f rfl (Let.as _ (wi1 (by omega)) (hk (by omega) trivial)))))))))))
variable {L : LexL}
theorem tl_extract {s : ByteArray} {p : Nat} (h : p ≤ s.size) : tl (s.extract p s.size) 0 = tl s p := by
  have e : s.size = p + (s.size - p) := by omega
  rw [show s.extract p s.size = s.extract p (p + (s.size - p)) by rw [← e], extract_tl]
  unfold tl bs
  rw [List.drop_zero]
  show ((List.drop p s.data.toList).take (s.size - p)) = _
  rw [List.take_of_length_le]
  rw [List.length_drop]; exact Nat.le_refl _
end Go.Sim.YtnnfiohdkobkdaaDoor
