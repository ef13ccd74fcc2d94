/- What is proved: the statement RatOrder as a plain one: the order of numbers is total, and goes with sums. -/
import Derived.Test.YtnhflokfcnfegaaLawRC
import Derived.Test.YtnhflokfcnfegaaOrdM
namespace Go.Sim.Ytnhflokfcnfegaa
open Go.RowKit Go.Proofs Go.Proofs.Try

theorem rcmp_of {a b : GRat} (ra : a.right = true) (rb : b.right = true) : ratCmpS a.p b.p = sgnS (a.N * b.D) (b.N * a.D) := by
  have e1 : rightS a.N a.D = true := ra
  have e2 : rightS b.N b.D = true := rb
  simp [ratCmpS, e1, e2]

theorem ratOrder_ev (a b c : GRat) (ha : a.ok) (hb : b.ok) (hc : c.ok) : Ev_law11_RatOrder a b c true := by
  have ia := GRat.ok.inI ha
  have ib := GRat.ok.inI hb
  have ic := GRat.ok.inI hc
  refine walk_law11_RatOrder ?_
  unfold W_law11_RatOrder
  refine Call.mk (refright_ev ia) ⟨fun _ => rfl, fun h1 => ?_⟩
  refine Call.mk (refright_ev ib) ⟨fun _ => rfl, fun h2 => ?_⟩
  refine Call.mk (refright_ev ic) ⟨fun _ => rfl, fun h3 => ?_⟩
  have ra : a.right = true := by simpa using h1
  have rb : b.right = true := by simpa using h2
  have rc : c.right = true := by simpa using h3
  obtain ⟨pa, _⟩ := GRat.right_spec.1 ra
  obtain ⟨pb, _⟩ := GRat.right_spec.1 rb
  obtain ⟨pc, _⟩ := GRat.right_spec.1 rc
  refine Call.mk (rcmp_ev ia ib) (Call.mk (rcmp_ev ib ic) (Call.mk (rcmp_ev ia ic) ?_))
  have bX := sgnS_bd (a.N * b.D) (b.N * a.D)
  have F1 : ratCmpS b.p a.p = -ratCmpS a.p b.p := by rw [rcmp_of ra rb, rcmp_of rb ra, sgnS_flip]
  have F2 : ratCmpS a.p b.p = 0 ↔ a = b := by
    rw [rcmp_of ra rb, sgnS_zero]
    constructor
    · intro h
      obtain ⟨e1, e2⟩ := cop_eqI ra rb h
      cases a; cases b; simp_all
    · rintro rfl; rfl
  have F3 : ratCmpS a.p b.p ≤ 0 → ratCmpS b.p c.p ≤ 0 → ratCmpS a.p c.p ≤ 0 := by
    rw [rcmp_of ra rb, rcmp_of rb rc, rcmp_of ra rc]
    intro h1 h2
    have h1' := Int.not_lt.1 (fun h => absurd (sgnS_pos.2 h) (Int.not_lt.2 h1))
    have h2' := Int.not_lt.1 (fun h => absurd (sgnS_pos.2 h) (Int.not_lt.2 h2))
    have := ord_trans pa pb pc h1' h2'
    exact Int.not_lt.1 (fun h => absurd (sgnS_pos.1 h) (Int.not_lt.2 this))
  have F4 : ratCmpS a.p b.p < 0 → ratCmpS b.p c.p ≤ 0 → ratCmpS a.p c.p < 0 := by
    rw [rcmp_of ra rb, rcmp_of rb rc, rcmp_of ra rc]
    intro h1 h2
    have h2' := Int.not_lt.1 (fun h => absurd (sgnS_pos.2 h) (Int.not_lt.2 h2))
    exact sgnS_neg.2 (ord_transl pa pb pc (sgnS_neg.1 h1) h2')
  rw [← rcmp_of ra rb] at bX
  refine ⟨fun x => x = false, ?_, ?_⟩
  · refine Call.mk (rcmp_ev ib ia) (Let.as (-ratCmpS a.p b.p) (by rw [wi (by omega) (by omega)]; omega) ?_)
    rw [F1]
    generalize ratCmpS a.p b.p = X at *
    generalize ratCmpS b.p c.p = Y at *
    generalize ratCmpS a.p c.p = Z at *
    have F2' : (X == 0) = GRat.beq a b := by
      rw [Bool.eq_iff_iff, GRat.beq_iff, ← F2]; simp
    have tail : Br (decide (X < (0 : Int))) (Br (decide (Y ≤ (0 : Int))) (decide (Z ≥ (0 : Int)) = false) (false = false)) (false = false) :=
      Br.d (fun h => Br.d (fun h' => by have := F4 h h'; simp; omega) (fun _ => rfl)) (fun _ => rfl)
    refine Br.f (by simp) (Br.f (by rw [F2']; simp) (Br.d (fun h => Br.d (fun h' => Br.d (fun h2 => ?_) (fun _ => tail)) (fun _ => tail)) (fun _ => tail)))
    have := F3 h h'
    omega
  · rintro _ rfl
    refine Br.f rfl (Call.mk (radd_ev ia ic) (Call.mk (radd_ev ib ic) ⟨fun _ => rfl, fun e1 => ⟨fun _ => rfl, fun e2 => ?_⟩⟩))
    have e1 : (addS a.p c.p).2 = 0 := by simpa using e1
    have e2 : (addS b.p c.p).2 = 0 := by simpa using e2
    obtain ⟨_, _, _, _, ks⟩ := add_val e1
    obtain ⟨_, _, _, _, kt⟩ := add_val e2
    refine Call.mk (rcmp_ev (a := (toR (addS a.p c.p)).1) (b := (toR (addS b.p c.p)).1) ks kt) ?_
    have := add_ord e1 e2
    simp only [beq_iff_eq]
    exact this

end Go.Sim.Ytnhflokfcnfegaa
