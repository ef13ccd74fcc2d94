/- What is proved: functions of the program compute what plain statements tell. -/
import Derived.Test.YtefpfeoimgkldaaDoorZRRWE

namespace Go.Sim.YtefpfeoimgkldaaDoor
open Go.RowKit Go.Proofs Go.Proofs.Tryd
set_option maxRecDepth 100000
def W_law11_RatReads (s1 : ByteArray) (Q : Bool → Prop) : Prop :=
 Call (Ev_rat_Read s1) fun x2 =>
 Call (Ev_ref11_Read s1) fun x4 =>
 Br (GRat.beq x2.1 x4.1) (Q (x2.2 == x4.2)) (
  Q false)
theorem walk_law11_RatReads {s1 : ByteArray} {r : Bool} (h : W_law11_RatReads s1 (fun r' => r' = r)) : Ev_law11_RatReads s1 r := by
  unfold W_law11_RatReads at h
  refine intr (L := [(0, .dat (.v (.string s1)))]) Tryd.func3 Tryd.ntmps3 ?_
  refine sN (pB rfl (dn (AWp.seq (rW (pG rfl ?_)))))
  obtain ⟨x2, hc3, h⟩ := h
  refine ca hc3 rfl ⟨.inl rfl, trivial⟩ rfl (pU rfl (pT rfl (pI rfl (al0 ?_))))
  refine st (v := .dat (.st _ _)) ?_
  refine pI rfl (dn (AWp.seq (rW (pG rfl ?_))))
  obtain ⟨x4, hc5, h⟩ := h
  refine ca hc5 rfl ⟨.inl rfl, trivial⟩ rfl (pU rfl (pT rfl (pI rfl (al0 ?_))))
  refine st (v := .dat (.st _ _)) ?_
  refine pI rfl (dn (AWp.seq (rN (pT rfl (pT rfl ?_)))))
  refine AOps.eqs rfl rfl rfl rfl rfl rfl rfl (by decide +kernel) (GRat.eqok23 _ x2.1 x4.1) ?_
  refine pB rfl (sB 20 h (fun h => ?_) (fun h => ?_))
  · refine pI rfl (pI rfl (pB rfl (pB rfl (pB rfl (dn (AWp.ret ?_))))))
    subst h
    exact ⟨_, rfl, rfl⟩
  refine ff rfl (ff rfl (ff rfl (pB rfl (pB rfl (dn (AWp.ret ?_))))))
  subst h
  exact ⟨_, rfl, rfl⟩
end Go.Sim.YtefpfeoimgkldaaDoor
