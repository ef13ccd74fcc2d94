/- What is proved: the float next to 1 is greater. -/
import Derived.Test.YtnnfiohdkobkdaaDoorZLBWLw
import Derived.Test.YtnnfiohdkobkdaaDoorZLBWF1
import Derived.Test.YtnnfiohdkobkdaaDoorZLBExtF
import Derived.Test.YtnnfiohdkobkdaaDoorZLBPureK
namespace Go.Sim.YtnnfiohdkobkdaaDoor
open Go.RowKit Go.Proofs Go.Proofs.Tryd
theorem isNaN_one : Ev_math_IsNaN 4607182418800017408 false := by
  refine walk_math_IsNaN ?_
  unfold W_math_IsNaN
  decide +kernel
theorem inf_one : Ev_math_Inf 1 9218868437227405312 := by
  refine walk_math_Inf ?_
  unfold W_math_Inf
  exact ⟨fun x => x = 9218868437227405312, Br.t (by decide) rfl, fun x hx => by subst hx; exact Call.mk (float64frombits_ev 9218868437227405312) rfl⟩
theorem next_one : Ev_ulp_Next 4607182418800017408 4607182418800017409 := by
  refine walk_ulp_Next ?_
  unfold W_ulp_Next
  refine Call.mk isNaN_one ⟨fun x => x = false, Br.f rfl (Call.mk inf_one (by decide +kernel)), ?_⟩
  rintro _ rfl
  refine Br.f rfl (Br.f (by decide +kernel) (Br.t (by decide +kernel) (Call.mk (float64bits_ev _) (Let.as (4607182418800017409 : Int) (by decide +kernel) (Call.mk (float64frombits_ev 4607182418800017409) rfl)))))
theorem alive_ev : Ev_law12_alive true := by
  refine walk_law12_alive ?_
  unfold W_law12_alive
  exact Call.mk next_one (by decide +kernel)
end Go.Sim.YtnnfiohdkobkdaaDoor
