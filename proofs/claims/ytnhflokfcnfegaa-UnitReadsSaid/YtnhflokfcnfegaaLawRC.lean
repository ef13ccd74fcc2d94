/- What is proved: the statement RatCounts as a plain one: the program's sums, differences, products and quotients are the reference's. -/
import Derived.Test.YtnhflokfcnfegaaWL1
import Derived.Test.YtnhflokfcnfegaaRatX
import Derived.Test.YtnhflokfcnfegaaRatOld2
namespace Go.Sim.Ytnhflokfcnfegaa
open Go.RowKit Go.Proofs Go.Proofs.Try

theorem inI_ok {n : Int} (h : okInt .i64 n) : Sim.inI n := by
  have e1 : IntKind.i64.min = -9223372036854775808 := rfl
  have e2 : IntKind.i64.max = 9223372036854775807 := rfl
  unfold okInt at h
  unfold Sim.inI
  omega

theorem GRat.ok.inI {a : GRat} (h : a.ok) : a.inI := ⟨inI_ok h.1, inI_ok h.2⟩

theorem refright_ev {a : GRat} (h : a.inI) : Ev_ref11_Right a a.right := refright_fn a.N a.D h.1 h.2
theorem refadd_ev {a b : GRat} (ha : a.inI) (hb : b.inI) : Ev_ref11_Add a b (toR (addS a.p b.p)) := refadd_fn a.N a.D b.N b.D ha.1 ha.2 hb.1 hb.2
theorem refsub_ev {a b : GRat} (ha : a.inI) (hb : b.inI) : Ev_ref11_Sub a b (toR (subS a.p b.p)) := refsub_fn a.N a.D b.N b.D ha.1 ha.2 hb.1 hb.2
theorem refmul_ev {a b : GRat} (ha : a.inI) (hb : b.inI) : Ev_ref11_Mul a b (toR (mulS a.p b.p)) := refmul_fn a.N a.D b.N b.D ha.1 ha.2 hb.1 hb.2
theorem refdiv_ev {a b : GRat} (ha : a.inI) (hb : b.inI) : Ev_ref11_Div a b (toR (divS a.p b.p)) := refdiv_fn a.N a.D b.N b.D ha.1 ha.2 hb.1 hb.2

theorem GRat.beq_self (a : GRat) : GRat.beq a a = true := (GRat.beq_iff a a).2 rfl

theorem ratCounts_ev (a b : GRat) (ha : a.ok) (hb : b.ok) : Ev_law11_RatCounts a b true := by
  have ia := GRat.ok.inI ha
  have ib := GRat.ok.inI hb
  refine walk_law11_RatCounts ?_
  unfold W_law11_RatCounts
  refine Call.mk (radd_ev ia ib) (Call.mk (refadd_ev ia ib) (Call.mk (rsub_ev ia ib) (Call.mk (refsub_ev ia ib) ?_)))
  refine Br.f (by simp [GRat.beq_self]) (Br.f (by simp) (Br.f (by simp [GRat.beq_self]) (Br.f (by simp) ?_)))
  refine Call.mk (rmul_ev ia ib) (Call.mk (refmul_ev ia ib) (Call.mk (rdiv_ev ia ib) (Call.mk (refdiv_ev ia ib) ?_)))
  exact Br.t (GRat.beq_self _) (Br.t (by simp) (Br.t (GRat.beq_self _) (by simp)))

end Go.Sim.Ytnhflokfcnfegaa
